/- The arguments of the law of fractions. -/
import Derived.Test.YtamjbnfmpfgjcaaGreatDoorFracW
import Derived.Test.YtamjbnfmpfgjcaaGreatDoorIn
set_option maxRecDepth 100000
namespace Go.Proofs.YtamjbnfmpfgjcaaGreatDoor
open Go.ChangeShapes Go.WideShapes Go.ChangeAt Go.RowKit Go.Ev
theorem arrCells : Tryz.prog.cellsOf 22 = 2 := by kernel_rfl
theorem intCells : Tryz.prog.cellsOf 3 = 1 := by kernel_rfl
section
variable {H : Type} {enc : TypeId × Value → H} {W : World} {base : Nat} {spare : Nat → Bool} {held : Bool}
theorem arr2_in {fuel : Nat} {cs : List Value} {x : DataW H × List MemPlace} (h : DataW.trod enc Tryz.prog W base spare held fuel 22 cs = some x) : ∃ a b : Int, cs = [.int .i64 a, .int .i64 b] ∧ (Lit.int .i64 a).wf = true ∧ (Lit.int .i64 b).wf = true := by
  obtain ⟨xs, n, rfl, _, hl, hlen, hi⟩ := DataW.trod_array Tryz.underlying22 h
  rw [arrCells] at hl
  rw [intCells] at hi
  match cs, hl with
  | [c0, c1], _ =>
  match xs, hlen with
  | [x0, x1], _ =>
  have e0 := hi 0 (by omega)
  have e1 := hi 1 (by omega)
  simp only [Nat.mul_one, List.getElem?_cons_zero, List.getElem?_cons_succ, List.drop_zero, List.drop_succ_cons, List.take_succ_cons, List.take_zero] at e0 e1
  obtain ⟨a0, q0, _, w0⟩ := DataW.trod_int Tryz.underlying3 e0
  obtain ⟨a1, q1, _, w1⟩ := DataW.trod_int Tryz.underlying3 e1
  simp only [List.cons.injEq, and_true] at q0 q1
  subst q0 q1
  exact ⟨a0, a1, rfl, w0, w1⟩
theorem arr2_val {v : Value} {d : DataW H} {p : List MemPlace} {b0 : Nat} (hv : Value.okWide Tryz.prog W .any b0 22 v) (h : DataW.Trod enc Tryz.prog W base spare held 22 v d p) : ∃ a b : Int, v = .agg #[.int .i64 a, .int .i64 b] ∧ (Lit.int .i64 a).wf = true ∧ (Lit.int .i64 b).wf = true := by
  obtain ⟨fuel, hf⟩ := h
  obtain ⟨a, b, h1, h2, h3⟩ := arr2_in hf
  refine ⟨a, b, ?_, h2, h3⟩
  simp only [Value.okWide, Tryz.underlying22] at hv
  obtain ⟨cs, rfl, _⟩ := hv
  congr 1
  exact Array.toList_inj.1 h1
end
end Go.Proofs.YtamjbnfmpfgjcaaGreatDoor
