/-
  DERIVED. GIVEN WITH THE SEED: THE CARDS: each row of YtdjnipabfbblnaaGreatDoorRows.lean that lists a variable, with what it lists TIED to the program's text (the seventh form; the later family's looks); each row that meets fmt, with fmt's text TOLD by the authors' own Lean function (tested against real Go, not proved from fmt's source: count such statements apart). THE CARD IS WHAT COUNTS. Prove the row's statement (the work); the ties are given (YtdjnipabfbblnaaGreatDoorTie.lean); close each card by the builder's one call (the guide's Derived/Test/ToyasCard.lean, 'card_holds'). Laid BY PROGRAM, IN A SANDBOX (cutbox-door.mjs). By AI agents, Wed Nov 11 2026. No macro, syntax, notation, axiom, sorry.
-/
import Derived.Test.YtdjnipabfbblnaaGreatDoorRows
import GoSem.ClaimSeven
namespace Go.Proofs.YtdjnipabfbblnaaGreatDoor
namespace Rows

/-- THE TIED CARD OF 'baizelaw21.SamplesShow'. -/
def samplesShowCard : Claim7 := { stood := { row := samplesShowRow, standIns := [], harness := (true, "4cacb6bb22d90ca8ae9e02ef92144b80b201f56c5e9c41d89d6b8f8e8630d885"), looks := true }, kinds := [], alts := [], laidByText := true, laidKinds := [.data, .data, .data, .listed, .data, .data, .data, .data, .data, .data], laidTests := true, laidLooks := .later }
def SamplesShowCardSaid : Prop := Claim7.holds Tryz.pinned (.plain (OpenSpec.ofChange samplesShowSpec)) samplesShowCard

/-- THE TIED CARD OF 'baizelaw17.GameRolls'. -/
def gameRollsCard : Claim7 := { stood := { row := gameRollsRow, standIns := [], harness := (true, "4cacb6bb22d90ca8ae9e02ef92144b80b201f56c5e9c41d89d6b8f8e8630d885"), looks := true }, kinds := [], alts := [], laidByText := true, laidKinds := [.data, .data, .data, .listed, .data, .data, .data, .data, .data, .data], laidTests := true, laidLooks := .later }
def GameRollsCardSaid : Prop := Claim7.holds Tryz.pinned (.plain (OpenSpec.ofChange gameRollsSpec)) gameRollsCard

/-- THE TIED CARD OF 'baizelaw21.SamplesTexts'. -/
def samplesTextsCard : Claim7 := { stood := { row := samplesTextsRow, standIns := [], harness := (true, "4cacb6bb22d90ca8ae9e02ef92144b80b201f56c5e9c41d89d6b8f8e8630d885"), looks := true }, kinds := [], alts := [], laidByText := true, laidKinds := [.data, .data, .data, .listed, .data, .data, .data, .data, .data, .data, .data], laidTests := true, laidLooks := .later }
def SamplesTextsCardSaid : Prop := Claim7.holds Tryz.pinned (.plain (OpenSpec.ofChange samplesTextsSpec)) samplesTextsCard

/-- THE SECOND FORM's CARD OF 'baizelaw21.SamplesShow'. -/
def samplesShowUptoCard : Claim7 := { stood := { row := samplesShowUptoRow, standIns := [], harness := (true, "4cacb6bb22d90ca8ae9e02ef92144b80b201f56c5e9c41d89d6b8f8e8630d885"), looks := true }, kinds := [], alts := [], laidByText := true, laidKinds := [.data, .data, .data, .listed, .data, .data, .data, .data, .data, .data], laidTests := true, laidLooks := .later }
def SamplesShowUptoCardSaid : Prop := Claim7.holds Tryz.pinned (.plain (OpenSpec.upto samplesShowSpec)) samplesShowUptoCard

/-- THE SECOND FORM's CARD OF 'baizelaw17.GameRolls'. -/
def gameRollsUptoCard : Claim7 := { stood := { row := gameRollsUptoRow, standIns := [], harness := (true, "4cacb6bb22d90ca8ae9e02ef92144b80b201f56c5e9c41d89d6b8f8e8630d885"), looks := true }, kinds := [], alts := [], laidByText := true, laidKinds := [.data, .data, .data, .listed, .data, .data, .data, .data, .data, .data], laidTests := true, laidLooks := .later }
def GameRollsUptoCardSaid : Prop := Claim7.holds Tryz.pinned (.plain (OpenSpec.upto gameRollsSpec)) gameRollsUptoCard

/-- THE SECOND FORM's CARD OF 'baizelaw21.SamplesTexts'. -/
def samplesTextsUptoCard : Claim7 := { stood := { row := samplesTextsUptoRow, standIns := [], harness := (true, "4cacb6bb22d90ca8ae9e02ef92144b80b201f56c5e9c41d89d6b8f8e8630d885"), looks := true }, kinds := [], alts := [], laidByText := true, laidKinds := [.data, .data, .data, .listed, .data, .data, .data, .data, .data, .data, .data], laidTests := true, laidLooks := .later }
def SamplesTextsUptoCardSaid : Prop := Claim7.holds Tryz.pinned (.plain (OpenSpec.upto samplesTextsSpec)) samplesTextsUptoCard
end Rows
end Go.Proofs.YtdjnipabfbblnaaGreatDoor
