/- GameRolls holds: for every input the law returns true and its arguments read afterwards as before. No condition. -/
import Derived.Test.YtdjnipabfbblnaaGreatDoorGameRollsL
import Derived.Test.YtdjnipabfbblnaaGreatDoorGameRollsJ
import Derived.Test.YtdjnipabfbblnaaGreatDoorTie
import Derived.Test.YtdjnipabfbblnaaGreatDoorCards
import Derived.LaidMore
import Derived.Stop.Joined
import Derived.SevenTiedAt
namespace Go.Proofs.YtdjnipabfbblnaaGreatDoor.gameRolls
open Go.ChangeShapes Go.WideShapes Go.ChangeAt Go.RowKit
set_option linter.unusedVariables false
set_option maxRecDepth 100000
theorem over : Rows.gameRollsRow.holds Tryz.pinned (OpenSpec.ofChange Rows.gameRollsSpec) :=
  OpenClaim.holds_of_wide 4 Tryz.f4 rfl rfl rfl rfl rfl rfl rfl ⟨rfl, rfl, rfl, rfl, rfl⟩ rfl rfl rfl rfl rfl (by kernel_rfl) Tryz.func4 facts
    (of_decide_eq_true (by kernel_rfl)) (by unfold Func.isWrapper; first | (rw [if_pos (by decide +kernel)]; kernel_rfl) | (rw [if_neg (by decide +kernel)]; exact ⟨rfl, rfl⟩))
    (fun os started H enc _ => lifted os started H enc)
theorem proved : Rows.GameRollsCardSaid :=
  Claim7.holds_tied_plain_at .later [] [.data, .data, .data, .listed, .data, .data, .data, .data, .data, .data] true (true, "4cacb6bb22d90ca8ae9e02ef92144b80b201f56c5e9c41d89d6b8f8e8630d885") true
    over (fun _ h => by cases h) (by kernel_rfl) (fun _ h => by cases h) gameRolls_row_tie rfl ⟨rfl, rfl⟩ (by kernel_rfl) rfl
    (fun f fn hf hfn => by
      obtain rfl : f = 4 := Option.some.inj ((show Tryz.prog.funcNamed "baize/baizelaw17.GameRolls" = some 4 by kernel_rfl).symm.trans hf) |>.symm
      obtain rfl : fn = Tryz.f4 := (Option.some.inj (Tryz.func4.symm.trans hfn)).symm
      exact ⟨by kernel_rfl, fun j t ht => by
        rw [Tryz.params4] at ht
        have hm : t ∈ [25, 25, 5] := by simpa using Array.mem_of_getElem? ht
        have hall : ([25, 25, 5].all fun u => !Tryz.prog.wantsStandIn u) = true := by kernel_rfl
        exact (show Tryz.prog.wantsStandIn t = false by simpa using List.all_eq_true.1 hall t hm)⟩)
    (by kernel_rfl)
#print axioms proved
end Go.Proofs.YtdjnipabfbblnaaGreatDoor.gameRolls
