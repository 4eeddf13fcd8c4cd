/-
  DERIVED. GIVEN WITH THE SEED: THE CARDS: each row of YtfkacmmcgncooaaGreatDoorRows.lean that lists a variable, with what it lists TIED to the program's text (the seventh form; the later family's looks); each row that meets fmt, with fmt's text TOLD by the authors' own Lean function (tested against real Go, not proved from fmt's source: count such statements apart). THE CARD IS WHAT COUNTS. Prove the row's statement (the work); the ties are given (YtfkacmmcgncooaaGreatDoorTie.lean); close each card by the builder's one call (the guide's Derived/Test/ToyasCard.lean, 'card_holds'). Laid BY PROGRAM, IN A SANDBOX (cutbox-door.mjs). By AI agents, Wed Nov 11 2026. No macro, syntax, notation, axiom, sorry.
-/
import Derived.Test.YtfkacmmcgncooaaGreatDoorRows
import GoSem.ClaimSeven
namespace Go.Proofs.YtfkacmmcgncooaaGreatDoor
namespace Rows

/-- THE TIED CARD OF 'baizelaw38.SubInner'. -/
def subInnerCard : Claim7 := { stood := { row := subInnerRow, standIns := [], harness := (true, "da049559b9f429971c6e53c8ee89c978782266508a62dc999780aece14b3517d"), looks := true }, kinds := [], alts := [], laidByText := true, laidKinds := [.data, .data, .data, .listed, .data, .data, .data, .data, .data, .data], laidTests := true, laidLooks := .later }
def SubInnerCardSaid : Prop := Claim7.holds Tryz.pinned (.plain (OpenSpec.ofChange subInnerSpec)) subInnerCard

/-- THE TIED CARD OF 'baizelaw38.SubMoney'. -/
def subMoneyCard : Claim7 := { stood := { row := subMoneyRow, standIns := [], harness := (true, "da049559b9f429971c6e53c8ee89c978782266508a62dc999780aece14b3517d"), looks := true }, kinds := [], alts := [], laidByText := true, laidKinds := [.data, .data, .data, .listed, .data, .data, .data, .data, .data, .data], laidTests := true, laidLooks := .later }
def SubMoneyCardSaid : Prop := Claim7.holds Tryz.pinned (.plain (OpenSpec.ofChange subMoneySpec)) subMoneyCard

/-- THE TIED CARD OF 'baizelaw38.SubBack'. -/
def subBackCard : Claim7 := { stood := { row := subBackRow, standIns := [], harness := (true, "da049559b9f429971c6e53c8ee89c978782266508a62dc999780aece14b3517d"), looks := true }, kinds := [], alts := [], laidByText := true, laidKinds := [.data, .data, .data, .listed, .data, .data, .data, .data, .data, .data], laidTests := true, laidLooks := .later }
def SubBackCardSaid : Prop := Claim7.holds Tryz.pinned (.plain (OpenSpec.ofChange subBackSpec)) subBackCard

/-- THE TIED CARD OF 'baizelaw38.SubPops'. -/
def subPopsCard : Claim7 := { stood := { row := subPopsRow, standIns := [], harness := (true, "da049559b9f429971c6e53c8ee89c978782266508a62dc999780aece14b3517d"), looks := true }, kinds := [], alts := [], laidByText := true, laidKinds := [.data, .data, .data, .listed, .data, .data, .data, .data, .data, .data], laidTests := true, laidLooks := .later }
def SubPopsCardSaid : Prop := Claim7.holds Tryz.pinned (.plain (OpenSpec.ofChange subPopsSpec)) subPopsCard

/-- THE SECOND FORM's CARD OF 'baizelaw38.SubInner'. -/
def subInnerUptoCard : Claim7 := { stood := { row := subInnerUptoRow, standIns := [], harness := (true, "da049559b9f429971c6e53c8ee89c978782266508a62dc999780aece14b3517d"), looks := true }, kinds := [], alts := [], laidByText := true, laidKinds := [.data, .data, .data, .listed, .data, .data, .data, .data, .data, .data], laidTests := true, laidLooks := .later }
def SubInnerUptoCardSaid : Prop := Claim7.holds Tryz.pinned (.plain (OpenSpec.upto subInnerSpec)) subInnerUptoCard

/-- THE SECOND FORM's CARD OF 'baizelaw38.SubMoney'. -/
def subMoneyUptoCard : Claim7 := { stood := { row := subMoneyUptoRow, standIns := [], harness := (true, "da049559b9f429971c6e53c8ee89c978782266508a62dc999780aece14b3517d"), looks := true }, kinds := [], alts := [], laidByText := true, laidKinds := [.data, .data, .data, .listed, .data, .data, .data, .data, .data, .data], laidTests := true, laidLooks := .later }
def SubMoneyUptoCardSaid : Prop := Claim7.holds Tryz.pinned (.plain (OpenSpec.upto subMoneySpec)) subMoneyUptoCard

/-- THE SECOND FORM's CARD OF 'baizelaw38.SubBack'. -/
def subBackUptoCard : Claim7 := { stood := { row := subBackUptoRow, standIns := [], harness := (true, "da049559b9f429971c6e53c8ee89c978782266508a62dc999780aece14b3517d"), looks := true }, kinds := [], alts := [], laidByText := true, laidKinds := [.data, .data, .data, .listed, .data, .data, .data, .data, .data, .data], laidTests := true, laidLooks := .later }
def SubBackUptoCardSaid : Prop := Claim7.holds Tryz.pinned (.plain (OpenSpec.upto subBackSpec)) subBackUptoCard

/-- THE SECOND FORM's CARD OF 'baizelaw38.SubPops'. -/
def subPopsUptoCard : Claim7 := { stood := { row := subPopsUptoRow, standIns := [], harness := (true, "da049559b9f429971c6e53c8ee89c978782266508a62dc999780aece14b3517d"), looks := true }, kinds := [], alts := [], laidByText := true, laidKinds := [.data, .data, .data, .listed, .data, .data, .data, .data, .data, .data], laidTests := true, laidLooks := .later }
def SubPopsUptoCardSaid : Prop := Claim7.holds Tryz.pinned (.plain (OpenSpec.upto subPopsSpec)) subPopsUptoCard
end Rows
end Go.Proofs.YtfkacmmcgncooaaGreatDoor
