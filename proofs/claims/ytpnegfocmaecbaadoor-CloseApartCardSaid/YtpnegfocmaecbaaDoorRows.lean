/-
  NARROWER THAN 'FOR EVERY INPUT', by the rows' own cells (each row's printed sentence says how): CloseApart: laid.
  DERIVED. THE GIVEN ROWS OF THIS SEAT. 1 by the template 'for every input the law returns true; each argument reads behind the call as it read before'; 0 by the template 'total and deterministic' (their statements: YtpnegfocmaecbaaDoorTotals.lean).
  GIVEN WITH THE SEED: the statements are not yours to turn. If you find one false, say at which input.
  Laid BY PROGRAM, IN A SANDBOX (cutbox-rows.mjs): the forced cells as the released guide's own fill.sh prints them over the translation f6c4341c3096e975… (all of the seat's roots in one cut). By AI agents, Wed Nov 11 2026. No macro, syntax, notation, axiom, sorry.
-/
import Derived.Test.YtpnegfocmaecbaaDoorChecked
import GoSem.Claim
import GoSem.ClaimJoined
import GoSem.ClaimMapViews
import Derived.JoinedTies
import Derived.KernelRfl
namespace Go.Proofs.YtpnegfocmaecbaaDoor
/- THE CELL 'sum', in the pinned program and in every row, IS THE sha256 OF THE DUMP (.gsa) THAT YtpnegfocmaecbaaDoorProg.lean LOADS. Nothing in Lean hashes anything: it is a label: what it is worth is what the hold of that sum in a sandbox is worth. -/
noncomputable def Tryd.pinned : Pinned := { name := "ytpnegfocmaecbaadoor", sum := "f6c4341c3096e975eb80e117efa21fc8dac9436ed3e44a5362b053fe6dd49d79", checked := Tryd.checked }
namespace Rows
def none {H : Type} : Left H := { results := [], args := [] }

/- WHAT THE LISTED PACKAGE-LEVEL VARIABLES READ AS WHEN THE CALL BEGINS. Each datum BY PROGRAM (the guide's laid-datum.mjs) off the statement by which the dump's own 'gosem.cut.vars' lays the variable. In a bare row this is a premise. The card (YtpnegfocmaecbaaDoorCards.lean) ties it to the program's text. -/
def laid_baize_code_operations {H : Type} : DataW H := .agg [.agg [.lit (.string [104, 97, 108, 116]), .lit (.string [110])], .agg [.lit (.string [115, 101, 116]), .lit (.string [119, 110])], .agg [.lit (.string [109, 111, 118, 101]), .lit (.string [119, 119])], .agg [.lit (.string [97, 100, 100]), .lit (.string [119, 119, 119])], .agg [.lit (.string [115, 117, 98]), .lit (.string [119, 119, 119])], .agg [.lit (.string [109, 117, 108]), .lit (.string [119, 119, 119])], .agg [.lit (.string [100, 105, 118]), .lit (.string [119, 119, 119])], .agg [.lit (.string [114, 101, 109]), .lit (.string [119, 119, 119])], .agg [.lit (.string [101, 113]), .lit (.string [119, 119, 119])], .agg [.lit (.string [110, 101]), .lit (.string [119, 119, 119])], .agg [.lit (.string [108, 116]), .lit (.string [119, 119, 119])], .agg [.lit (.string [108, 101]), .lit (.string [119, 119, 119])], .agg [.lit (.string [97, 110, 100]), .lit (.string [119, 119, 119])], .agg [.lit (.string [111, 114]), .lit (.string [119, 119, 119])], .agg [.lit (.string [110, 111, 116]), .lit (.string [119, 119])], .agg [.lit (.string [108, 111, 97, 100]), .lit (.string [119, 119, 119])], .agg [.lit (.string [115, 116, 111, 114, 101]), .lit (.string [119, 119, 119])], .agg [.lit (.string [99, 117, 116]), .lit (.string [119, 110, 110])], .agg [.lit (.string [119, 105, 116, 104, 105, 110]), .lit (.string [119, 119, 110])], .agg [.lit (.string [106, 117, 109, 112]), .lit (.string [112])], .agg [.lit (.string [106, 122]), .lit (.string [112, 119])], .agg [.lit (.string [106, 110, 122]), .lit (.string [112, 119])]]

/-- 'baizelaw35.CloseApart': WHATEVER THE INPUT: true; the input reads as it did. -/
def closeApartSpec : ChangeSpec := { name := "closeApart", fn := fun _ => fun
  | [d1, d2] => { results := [.lit (.bool true)], args := [d1, d2] }
  | _ => none }
def closeApartRow : OpenClaim := { program := "ytpnegfocmaecbaadoor", sum := "f6c4341c3096e975eb80e117efa21fc8dac9436ed3e44a5362b053fe6dd49d79", func := "baize/baizelaw35.CloseApart", spec := "closeApart", unfollowed := true, recurses := true, named := ["baize/code.operations"], apart := false, laid := [("baize/code.operations", laid_baize_code_operations)] }
def CloseApartSaid : Prop := closeApartRow.holds Tryd.pinned (OpenSpec.ofChange closeApartSpec)

/-- ITS FALSE NEIGHBOUR: 'it returns false'. Refute it at one input. -/
def closeApartWrong : ChangeSpec := { name := "closeApart", fn := fun _ => fun
  | [d1, d2] => { results := [.lit (.bool false)], args := [d1, d2] }
  | _ => none }
def CloseApartWrongFalsely : Prop := closeApartRow.holds Tryd.pinned (OpenSpec.ofChange closeApartWrong)

/- THE SECOND FORM. 'bulk': how many values and letters a reading holds, each counted each time it is reached (what is shared counts as often as it is met; a slice's spare places count too). A statement '..UptoSaid' is the law's where the arguments, and the package variables that the reading takes, are together of bulk at most 1048576: NARROWER than '..Said'. Prove '..Said' where nothing that the law and all that it calls make is longer than what came in: it says more and counts as full. Else prove '..UptoSaid'. A law counts once. -/
mutual
def uptoBulk {H : Type} : DataW H → Nat
  | .lit (.string bytes) => bytes.length + 1
  | .lit _ => 1
  | .nil => 1
  | .ptr d => uptoBulk d + 1
  | .slice elems spare => uptoBulkAll elems + uptoBulkAll spare + 1
  | .agg parts => uptoBulkAll parts + 1
  | .iface _ d => uptoBulk d + 1
  | .map entries => uptoBulkEntries entries + 1
  | .held _ => 1
def uptoBulkAll {H : Type} : List (DataW H) → Nat
  | [] => 0
  | d :: r => uptoBulk d + uptoBulkAll r
def uptoBulkEntries {H : Type} : List (Lit × DataW H) → Nat
  | [] => 0
  | x :: r => uptoBulkEntry x + uptoBulkEntries r
def uptoBulkEntry {H : Type} : Lit × DataW H → Nat
  | (.string bytes, d) => bytes.length + uptoBulk d + 1
  | (_, d) => uptoBulk d + 1
 end
def uptoSmall : (H : Type) → List (DataW H) → Bool := fun _ ds => decide (uptoBulkAll ds ≤ 1048576)
def OpenSpec.upto (s : _root_.Go.ChangeSpec) : _root_.Go.OpenSpec := { _root_.Go.OpenSpec.ofChange s with cond := some uptoSmall }

/-- 'baizelaw35.CloseApart', WHERE WHAT IT READS IS OF BULK AT MOST 1048576: true; the input reads as it did. -/
def closeApartUptoRow : OpenClaim := { program := "ytpnegfocmaecbaadoor", sum := "f6c4341c3096e975eb80e117efa21fc8dac9436ed3e44a5362b053fe6dd49d79", func := "baize/baizelaw35.CloseApart", spec := "closeApart", unfollowed := true, recurses := true, named := ["baize/code.operations"], apart := false, laid := [("baize/code.operations", laid_baize_code_operations)], narrowed := true }
def CloseApartUptoSaid : Prop := closeApartUptoRow.holds Tryd.pinned (OpenSpec.upto closeApartSpec)

end Rows
end Go.Proofs.YtpnegfocmaecbaaDoor
