/-
  DERIVED. GIVEN WITH THE SEED: THE CARDS: each row of YtpnegfocmaecbaaDoorRows.lean that lists a variable, with what it lists TIED to the program's text (the seventh form; the later family's looks); each row that meets fmt, with fmt's text TOLD by the authors' own Lean function (tested against real Go, not proved from fmt's source: count such statements apart). THE CARD IS WHAT COUNTS. Prove the row's statement (the work); the ties are given (YtpnegfocmaecbaaDoorTie.lean); close each card by the builder's one call (the guide's Derived/Test/ToyasCard.lean, 'card_holds'). Laid BY PROGRAM, IN A SANDBOX (cutbox-door.mjs). By AI agents, Wed Nov 11 2026. No macro, syntax, notation, axiom, sorry.
-/
import Derived.Test.YtpnegfocmaecbaaDoorRows
import GoSem.ClaimSeven
namespace Go.Proofs.YtpnegfocmaecbaaDoor
namespace Rows

/-- THE TIED CARD OF 'baizelaw35.CloseApart'. -/
def closeApartCard : Claim7 := { stood := { row := closeApartRow, standIns := [], harness := (true, "de098510c2c8fa4a53ea341d2b883f7ae843c1739d3b67576590dcd2a9a53b4f"), looks := false }, kinds := [], alts := [], laidByText := true, laidKinds := [.data], laidTests := true, laidLooks := .later }
def CloseApartCardSaid : Prop := Claim7.holds Tryd.pinned (.plain (OpenSpec.ofChange closeApartSpec)) closeApartCard

/-- THE SECOND FORM's CARD OF 'baizelaw35.CloseApart'. -/
def closeApartUptoCard : Claim7 := { stood := { row := closeApartUptoRow, standIns := [], harness := (true, "de098510c2c8fa4a53ea341d2b883f7ae843c1739d3b67576590dcd2a9a53b4f"), looks := false }, kinds := [], alts := [], laidByText := true, laidKinds := [.data], laidTests := true, laidLooks := .later }
def CloseApartUptoCardSaid : Prop := Claim7.holds Tryd.pinned (.plain (OpenSpec.upto closeApartSpec)) closeApartUptoCard
end Rows
end Go.Proofs.YtpnegfocmaecbaaDoor
