/- SubInner holds: for every input the law returns true and its arguments read afterwards as before. No condition. -/
import Derived.Test.YtfkacmmcgncooaaGreatDoorSubInnerL
import Derived.Test.YtfkacmmcgncooaaGreatDoorSubInnerJ
import Derived.Test.YtfkacmmcgncooaaGreatDoorTie
import Derived.Test.YtfkacmmcgncooaaGreatDoorCards
import Derived.LaidMore
import Derived.Stop.Joined
import Derived.SevenTiedAt
namespace Go.Proofs.YtfkacmmcgncooaaGreatDoor.subInner
open Go.ChangeShapes Go.WideShapes Go.ChangeAt Go.RowKit
set_option linter.unusedVariables false
set_option maxRecDepth 100000
theorem over : Rows.subInnerRow.holds Tryz.pinned (OpenSpec.ofChange Rows.subInnerSpec) :=
  OpenClaim.holds_of_wide 3 Tryz.f3 rfl rfl rfl rfl rfl rfl rfl ⟨rfl, rfl, rfl, rfl, rfl⟩ rfl rfl rfl rfl rfl (by kernel_rfl) Tryz.func3 facts
    (of_decide_eq_true (by kernel_rfl)) (by unfold Func.isWrapper; first | (rw [if_pos (by decide +kernel)]; kernel_rfl) | (rw [if_neg (by decide +kernel)]; exact ⟨rfl, rfl⟩))
    (fun os started H enc _ => lifted os started H enc)
theorem proved : Rows.SubInnerCardSaid :=
  Claim7.holds_tied_plain_at .later [] [.data, .data, .data, .listed, .data, .data, .data, .data, .data, .data] true (true, "da049559b9f429971c6e53c8ee89c978782266508a62dc999780aece14b3517d") true
    over (fun _ h => by cases h) (by kernel_rfl) (fun _ h => by cases h) subInner_row_tie rfl ⟨rfl, rfl⟩ (by kernel_rfl) rfl
    (fun f fn hf hfn => by
      obtain rfl : f = 3 := Option.some.inj ((show Tryz.prog.funcNamed "baize/baizelaw38.SubInner" = some 3 by kernel_rfl).symm.trans hf) |>.symm
      obtain rfl : fn = Tryz.f3 := (Option.some.inj (Tryz.func3.symm.trans hfn)).symm
      exact ⟨by kernel_rfl, fun j t ht => by
        rw [Tryz.params3] at ht
        have hm : t ∈ [5, 5, 23, 24, 24] := by simpa using Array.mem_of_getElem? ht
        have hall : ([5, 5, 23, 24, 24].all fun u => !Tryz.prog.wantsStandIn u) = true := by kernel_rfl
        exact (show Tryz.prog.wantsStandIn t = false by simpa using List.all_eq_true.1 hall t hm)⟩)
    (by kernel_rfl)
#print axioms proved
end Go.Proofs.YtfkacmmcgncooaaGreatDoor.subInner
