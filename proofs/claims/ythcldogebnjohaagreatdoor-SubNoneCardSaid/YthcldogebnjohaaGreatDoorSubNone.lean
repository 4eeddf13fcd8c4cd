/- SubNone holds: for every input the law returns true and its arguments read afterwards as before. No condition. -/
import Derived.Test.YthcldogebnjohaaGreatDoorSubNoneL
import Derived.Test.YthcldogebnjohaaGreatDoorSubNoneJ
import Derived.Test.YthcldogebnjohaaGreatDoorTie
import Derived.Test.YthcldogebnjohaaGreatDoorCards
import Derived.LaidMore
import Derived.Stop.Joined
import Derived.SevenTiedAt
namespace Go.Proofs.YthcldogebnjohaaGreatDoor.subNone
open Go.ChangeShapes Go.WideShapes Go.ChangeAt Go.RowKit
set_option linter.unusedVariables false
set_option maxRecDepth 100000
theorem over : Rows.subNoneRow.holds Tryz.pinned (OpenSpec.ofChange Rows.subNoneSpec) :=
  OpenClaim.holds_of_wide 3 Tryz.f3 rfl rfl rfl rfl rfl rfl rfl ⟨rfl, rfl, rfl, rfl, rfl⟩ rfl rfl rfl rfl rfl (by kernel_rfl) Tryz.func3 facts
    (of_decide_eq_true (by kernel_rfl)) (by unfold Func.isWrapper; first | (rw [if_pos (by decide +kernel)]; kernel_rfl) | (rw [if_neg (by decide +kernel)]; exact ⟨rfl, rfl⟩))
    (fun os started H enc _ => lifted os started H enc)
theorem proved : Rows.SubNoneCardSaid :=
  Claim7.holds_tied_plain_at .later [] [.data, .data, .data, .listed, .data, .data, .data, .data, .data, .data] true (true, "76f64b35b576791f46fd44be20bc06d4e0b3233dcb17b2aeb7e4f0ac753f45f3") true
    over (fun _ h => by cases h) (by kernel_rfl) (fun _ h => by cases h) subNone_row_tie rfl ⟨rfl, rfl⟩ (by kernel_rfl) rfl
    (fun f fn hf hfn => by
      obtain rfl : f = 3 := Option.some.inj ((show Tryz.prog.funcNamed "baize/baizelaw38.SubNone" = some 3 by kernel_rfl).symm.trans hf) |>.symm
      obtain rfl : fn = Tryz.f3 := (Option.some.inj (Tryz.func3.symm.trans hfn)).symm
      exact ⟨by kernel_rfl, fun j t ht => by
        rw [Tryz.params3] at ht
        have hm : t ∈ [5, 22, 21] := by simpa using Array.mem_of_getElem? ht
        have hall : ([5, 22, 21].all fun u => !Tryz.prog.wantsStandIn u) = true := by kernel_rfl
        exact (show Tryz.prog.wantsStandIn t = false by simpa using List.all_eq_true.1 hall t hm)⟩)
    (by kernel_rfl)
#print axioms proved
end Go.Proofs.YthcldogebnjohaaGreatDoor.subNone
