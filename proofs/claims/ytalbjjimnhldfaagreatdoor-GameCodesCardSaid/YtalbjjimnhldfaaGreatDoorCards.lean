/-
  DERIVED. GIVEN WITH THE SEED: THE CARDS: each row of YtalbjjimnhldfaaGreatDoorRows.lean that lists a variable, with what it lists TIED to the program's text (the seventh form; the later family's looks); each row that meets fmt, with fmt's text TOLD by the authors' own Lean function (tested against real Go, not proved from fmt's source: count such statements apart). THE CARD IS WHAT COUNTS. Prove the row's statement (the work); the ties are given (YtalbjjimnhldfaaGreatDoorTie.lean); close each card by the builder's one call (the guide's Derived/Test/ToyasCard.lean, 'card_holds'). Laid BY PROGRAM, IN A SANDBOX (cutbox-door.mjs). By AI agents, Wed Nov 11 2026. No macro, syntax, notation, axiom, sorry.
-/
import Derived.Test.YtalbjjimnhldfaaGreatDoorRows
import GoSem.ClaimSeven
namespace Go.Proofs.YtalbjjimnhldfaaGreatDoor
namespace Rows

/-- THE TIED CARD OF 'baizelaw17.GameRolls'. -/
def gameRollsCard : Claim7 := { stood := { row := gameRollsRow, standIns := [], harness := (true, "6a755eaa4988f372e361f3716664449d18939a2fde2825fbe96feeba9bd633fb"), looks := true }, kinds := [], alts := [], laidByText := true, laidKinds := [.data, .data, .data, .listed, .data, .data, .data, .data, .data, .data], laidTests := true, laidLooks := .later }
def GameRollsCardSaid : Prop := Claim7.holds Tryz.pinned (.plain (OpenSpec.ofChange gameRollsSpec)) gameRollsCard

/-- THE TIED CARD OF 'baizelaw17.GameMoves'. -/
def gameMovesCard : Claim7 := { stood := { row := gameMovesRow, standIns := [], harness := (true, "6a755eaa4988f372e361f3716664449d18939a2fde2825fbe96feeba9bd633fb"), looks := true }, kinds := [], alts := [], laidByText := true, laidKinds := [.data, .data, .data, .listed, .data, .data, .data, .data, .data, .data], laidTests := true, laidLooks := .later }
def GameMovesCardSaid : Prop := Claim7.holds Tryz.pinned (.plain (OpenSpec.ofChange gameMovesSpec)) gameMovesCard

/-- THE TIED CARD OF 'baizelaw17.GameCodes'. -/
def gameCodesCard : Claim7 := { stood := { row := gameCodesRow, standIns := [], harness := (true, "6a755eaa4988f372e361f3716664449d18939a2fde2825fbe96feeba9bd633fb"), looks := true }, kinds := [], alts := [], laidByText := true, laidKinds := [.data, .data, .data, .listed, .data, .data, .data, .data, .data, .data], laidTests := true, laidLooks := .later }
def GameCodesCardSaid : Prop := Claim7.holds Tryz.pinned (.plain (OpenSpec.ofChange gameCodesSpec)) gameCodesCard

/-- THE TIED CARD OF 'baizelaw17.GameReads'. -/
def gameReadsCard : Claim7 := { stood := { row := gameReadsRow, standIns := [], harness := (true, "6a755eaa4988f372e361f3716664449d18939a2fde2825fbe96feeba9bd633fb"), looks := true }, kinds := [], alts := [], laidByText := true, laidKinds := [.data, .data, .data, .listed, .data, .data, .data, .data, .data, .data], laidTests := true, laidLooks := .later }
def GameReadsCardSaid : Prop := Claim7.holds Tryz.pinned (.plain (OpenSpec.ofChange gameReadsSpec)) gameReadsCard

/-- THE SECOND FORM's CARD OF 'baizelaw17.GameRolls'. -/
def gameRollsUptoCard : Claim7 := { stood := { row := gameRollsUptoRow, standIns := [], harness := (true, "6a755eaa4988f372e361f3716664449d18939a2fde2825fbe96feeba9bd633fb"), looks := true }, kinds := [], alts := [], laidByText := true, laidKinds := [.data, .data, .data, .listed, .data, .data, .data, .data, .data, .data], laidTests := true, laidLooks := .later }
def GameRollsUptoCardSaid : Prop := Claim7.holds Tryz.pinned (.plain (OpenSpec.upto gameRollsSpec)) gameRollsUptoCard

/-- THE SECOND FORM's CARD OF 'baizelaw17.GameMoves'. -/
def gameMovesUptoCard : Claim7 := { stood := { row := gameMovesUptoRow, standIns := [], harness := (true, "6a755eaa4988f372e361f3716664449d18939a2fde2825fbe96feeba9bd633fb"), looks := true }, kinds := [], alts := [], laidByText := true, laidKinds := [.data, .data, .data, .listed, .data, .data, .data, .data, .data, .data], laidTests := true, laidLooks := .later }
def GameMovesUptoCardSaid : Prop := Claim7.holds Tryz.pinned (.plain (OpenSpec.upto gameMovesSpec)) gameMovesUptoCard

/-- THE SECOND FORM's CARD OF 'baizelaw17.GameCodes'. -/
def gameCodesUptoCard : Claim7 := { stood := { row := gameCodesUptoRow, standIns := [], harness := (true, "6a755eaa4988f372e361f3716664449d18939a2fde2825fbe96feeba9bd633fb"), looks := true }, kinds := [], alts := [], laidByText := true, laidKinds := [.data, .data, .data, .listed, .data, .data, .data, .data, .data, .data], laidTests := true, laidLooks := .later }
def GameCodesUptoCardSaid : Prop := Claim7.holds Tryz.pinned (.plain (OpenSpec.upto gameCodesSpec)) gameCodesUptoCard

/-- THE SECOND FORM's CARD OF 'baizelaw17.GameReads'. -/
def gameReadsUptoCard : Claim7 := { stood := { row := gameReadsUptoRow, standIns := [], harness := (true, "6a755eaa4988f372e361f3716664449d18939a2fde2825fbe96feeba9bd633fb"), looks := true }, kinds := [], alts := [], laidByText := true, laidKinds := [.data, .data, .data, .listed, .data, .data, .data, .data, .data, .data], laidTests := true, laidLooks := .later }
def GameReadsUptoCardSaid : Prop := Claim7.holds Tryz.pinned (.plain (OpenSpec.upto gameReadsSpec)) gameReadsUptoCard
end Rows
end Go.Proofs.YtalbjjimnhldfaaGreatDoor
