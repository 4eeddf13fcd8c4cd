/-
  DERIVED. GIVEN WITH THE SEED: THE CARDS: each row of YthokbbichifohaaGreatDoorRows.lean that lists a variable, with what it lists TIED to the program's text (the seventh form; the later family's looks); each row that meets fmt, with fmt's text TOLD by the authors' own Lean function (tested against real Go, not proved from fmt's source: count such statements apart). THE CARD IS WHAT COUNTS. Prove the row's statement (the work); the ties are given (YthokbbichifohaaGreatDoorTie.lean); close each card by the builder's one call (the guide's Derived/Test/ToyasCard.lean, 'card_holds'). Laid BY PROGRAM, IN A SANDBOX (cutbox-door.mjs). By AI agents, Wed Nov 11 2026. No macro, syntax, notation, axiom, sorry.
-/
import Derived.Test.YthokbbichifohaaGreatDoorRows
import GoSem.ClaimSeven
namespace Go.Proofs.YthokbbichifohaaGreatDoor
namespace Rows

/-- THE TIED CARD OF 'baizelaw19.CheckerNil'. -/
def checkerNilCard : Claim7 := { stood := { row := checkerNilRow, standIns := [], harness := (true, "f6215d451dd0c65e3b6d5e947d67b250446ae59a478dc636a7c2b135c385ea30"), looks := true }, kinds := [], alts := [], laidByText := true, laidKinds := [.data, .data, .data, .listed, .data, .data, .data, .data, .data, .data], laidTests := true, laidLooks := .later }
def CheckerNilCardSaid : Prop := Claim7.holds Tryz.pinned (.plain (OpenSpec.ofChange checkerNilSpec)) checkerNilCard

/-- THE SECOND FORM's CARD OF 'baizelaw19.CheckerNil'. -/
def checkerNilUptoCard : Claim7 := { stood := { row := checkerNilUptoRow, standIns := [], harness := (true, "f6215d451dd0c65e3b6d5e947d67b250446ae59a478dc636a7c2b135c385ea30"), looks := true }, kinds := [], alts := [], laidByText := true, laidKinds := [.data, .data, .data, .listed, .data, .data, .data, .data, .data, .data], laidTests := true, laidLooks := .later }
def CheckerNilUptoCardSaid : Prop := Claim7.holds Tryz.pinned (.plain (OpenSpec.upto checkerNilSpec)) checkerNilUptoCard
end Rows
end Go.Proofs.YthokbbichifohaaGreatDoor
