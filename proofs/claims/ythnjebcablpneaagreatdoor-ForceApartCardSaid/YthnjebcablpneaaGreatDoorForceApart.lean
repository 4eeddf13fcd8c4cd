/- ForceApart holds: for every input the law returns true and its arguments read afterwards as before. No condition. -/
import Derived.Test.YthnjebcablpneaaGreatDoorForceApartL
import Derived.Test.YthnjebcablpneaaGreatDoorForceApartJ
import Derived.Test.YthnjebcablpneaaGreatDoorTie
import Derived.Test.YthnjebcablpneaaGreatDoorCards
import Derived.LaidMore
import Derived.Stop.Joined
import Derived.SevenTiedAt
namespace Go.Proofs.YthnjebcablpneaaGreatDoor.forceApart
open Go.ChangeShapes Go.WideShapes Go.ChangeAt Go.RowKit
set_option linter.unusedVariables false
set_option maxRecDepth 100000
theorem over : Rows.forceApartRow.holds Tryz.pinned (OpenSpec.ofChange Rows.forceApartSpec) :=
  OpenClaim.holds_of_wide 3 Tryz.f3 rfl rfl rfl rfl rfl rfl rfl ⟨rfl, rfl, rfl, rfl, rfl⟩ rfl rfl rfl rfl rfl (by kernel_rfl) Tryz.func3 facts
    (of_decide_eq_true (by kernel_rfl)) (by unfold Func.isWrapper; first | (rw [if_pos (by decide +kernel)]; kernel_rfl) | (rw [if_neg (by decide +kernel)]; exact ⟨rfl, rfl⟩))
    (fun os started H enc _ => lifted os started H enc)

/-- The statement: the tied card. -/
theorem proved : Rows.ForceApartCardSaid :=
  Claim7.holds_tied_plain_at .later [] [.data, .data, .data, .listed, .data, .data, .data, .data, .data, .data] true (true, "35f4b918fe50dbe397d8f5176087d3149db6811f174fa02eced5e20132cfdb5c") true
    over (fun _ h => by cases h) (by kernel_rfl) (fun _ h => by cases h) forceApart_row_tie rfl ⟨rfl, rfl⟩ (by kernel_rfl) rfl
    (fun f fn hf hfn => by
      obtain rfl : f = 3 := Option.some.inj ((show Tryz.prog.funcNamed "baize/baizelaw33.ForceApart" = some 3 by kernel_rfl).symm.trans hf) |>.symm
      obtain rfl : fn = Tryz.f3 := (Option.some.inj (Tryz.func3.symm.trans hfn)).symm
      exact ⟨by kernel_rfl, fun j t ht => by
        rw [Tryz.params3] at ht
        have hm : t ∈ [29, 30] := by simpa using Array.mem_of_getElem? ht
        have hall : ([29, 30].all fun u => !Tryz.prog.wantsStandIn u) = true := by kernel_rfl
        exact (show Tryz.prog.wantsStandIn t = false by simpa using List.all_eq_true.1 hall t hm)⟩)
    (by kernel_rfl)
#print axioms proved
end Go.Proofs.YthnjebcablpneaaGreatDoor.forceApart
