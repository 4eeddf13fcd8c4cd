/-
  DERIVED. GIVEN WITH THE SEED: THE CARDS: each row of YthcldogebnjohaaGreatDoorRows.lean that lists a variable, with what it lists TIED to the program's text (the seventh form; the later family's looks); each row that meets fmt, with fmt's text TOLD by the authors' own Lean function (tested against real Go, not proved from fmt's source: count such statements apart). THE CARD IS WHAT COUNTS. Prove the row's statement (the work); the ties are given (YthcldogebnjohaaGreatDoorTie.lean); close each card by the builder's one call (the guide's Derived/Test/ToyasCard.lean, 'card_holds'). Laid BY PROGRAM, IN A SANDBOX (cutbox-door.mjs). By AI agents, Wed Nov 11 2026. No macro, syntax, notation, axiom, sorry.
-/
import Derived.Test.YthcldogebnjohaaGreatDoorRows
import GoSem.ClaimSeven
namespace Go.Proofs.YthcldogebnjohaaGreatDoor
namespace Rows

/-- THE TIED CARD OF 'baizelaw38.SubNone'. -/
def subNoneCard : Claim7 := { stood := { row := subNoneRow, standIns := [], harness := (true, "76f64b35b576791f46fd44be20bc06d4e0b3233dcb17b2aeb7e4f0ac753f45f3"), looks := true }, kinds := [], alts := [], laidByText := true, laidKinds := [.data, .data, .data, .listed, .data, .data, .data, .data, .data, .data], laidTests := true, laidLooks := .later }
def SubNoneCardSaid : Prop := Claim7.holds Tryz.pinned (.plain (OpenSpec.ofChange subNoneSpec)) subNoneCard

/-- THE SECOND FORM's CARD OF 'baizelaw38.SubNone'. -/
def subNoneUptoCard : Claim7 := { stood := { row := subNoneUptoRow, standIns := [], harness := (true, "76f64b35b576791f46fd44be20bc06d4e0b3233dcb17b2aeb7e4f0ac753f45f3"), looks := true }, kinds := [], alts := [], laidByText := true, laidKinds := [.data, .data, .data, .listed, .data, .data, .data, .data, .data, .data], laidTests := true, laidLooks := .later }
def SubNoneUptoCardSaid : Prop := Claim7.holds Tryz.pinned (.plain (OpenSpec.upto subNoneSpec)) subNoneUptoCard
end Rows
end Go.Proofs.YthcldogebnjohaaGreatDoor
