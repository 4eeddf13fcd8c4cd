/- Two fractions are the same or not. -/
import Derived.Test.YtamjbnfmpfgjcaaGreatDoorBase
import Derived.Laws.StructEq
set_option maxRecDepth 100000
namespace Go.Proofs.YtamjbnfmpfgjcaaGreatDoor
open Go.RowKit
theorem part0 (a b : Int) (W : World) : (part 3 #[.int .i64 a, .int .i64 b] 0).run Tryz.prog W = .ok (.int .i64 a) W := by kernel_rfl
theorem part1 (a b : Int) (W : World) : (part 3 #[.int .i64 a, .int .i64 b] 1).run Tryz.prog W = .ok (.int .i64 b) W := by kernel_rfl
theorem frac_eq (a b c d : Int) (W : World) : (Op.equalIn 10000 25 (.agg #[.int .i64 a, .int .i64 b]) (.agg #[.int .i64 c, .int .i64 d])).run Tryz.prog W = .ok (decide (a = c) && decide (b = d)) W := by
  have h2 : Tryz.prog.stoodInHeld 25 = false := by kernel_rfl
  obtain ⟨f0, f1, h3, n0, n1, t0, t1, o0, o1⟩ : ∃ f0 f1 : Field, (Tryz.prog.fieldsOf 25).toList = [f0, f1] ∧ f0.name = "Num" ∧ f1.name = "Den" ∧ f0.type = 3 ∧ f1.type = 3 ∧ f0.offset = 0 ∧ f1.offset = 1 := ⟨_, _, rfl, rfl, rfl, rfl, rfl, rfl, rfl⟩
  rw [show (10000 : Nat) = 9998 + 1 + 1 from rfl, run_equalIn_struct W (9998 + 1) 25 _ _ (by kernel_rfl) h2, h3]
  have e : ∀ (x y : Int) (W : World), (Op.equalIn (9998 + 1) 3 (.int .i64 x) (.int .i64 y)).run Tryz.prog W = .ok (x == y) W := fun x y W => run_equalIn_int W 9998 3 .i64 .i64 x y Tryz.underlying3
  generalize 9998 + 1 = n at e ⊢
  by_cases h : a = c
  · subst h
    by_cases h' : b = d
    · subst h'; simp [Op.eqFields, part0, part1, e, n0, n1, t0, t1, o0, o1]
    · simp [Op.eqFields, part0, part1, e, n0, n1, t0, t1, o0, o1, h']
  · simp [Op.eqFields, part0, part1, e, n0, n1, t0, t1, o0, o1, h]
end Go.Proofs.YtamjbnfmpfgjcaaGreatDoor
