/- Positions: as they lie in memory, and as they came in; clones; whether two are the same. -/
import Derived.Test.YtalbjjimnhldfaaGreatDoorDig
import Derived.Lib.SmallJoins
set_option maxRecDepth 100000
namespace Go.Proofs.YtalbjjimnhldfaaGreatDoor
open Go.RowKit Go.ChangeShapes Go.WideShapes Go.ChangeAt Go.Joins
theorem Sl.take {α : Type} {f : α → Value} {w : World} {A : Option Addr} {n : Nat} {xs : List α} (h : Sl f w A n xs) (j : Nat) : Sl f w A (min n j) (xs.take j) := by
  have hl := h.len
  have hm := h.max
  refine ⟨by simp [hl]; omega, by omega, fun hn => ?_⟩
  obtain ⟨b, off, hA, hlt, hc⟩ := h.at_ (by omega)
  refine ⟨b, off, hA, hlt, fun i v hv => hc i v ?_⟩
  rw [List.getElem?_take] at hv
  split at hv
  · exact hv
  · cases hv
theorem Sln.take {α : Type} {sz : Nat} {f : α → List Value} {w : World} {A : Option Addr} {n : Nat} {xs : List α} (h : Sln sz f w A n xs) (j : Nat) : Sln sz f w A (min n j) (xs.take j) := by
  have hl := h.len
  have hm := h.max
  refine ⟨by simp [hl]; omega, by omega, fun v hv => h.cells v (List.mem_of_mem_take hv), fun hn => ?_⟩
  obtain ⟨b, off, hA, hlt, hc⟩ := h.at_ (by omega)
  refine ⟨b, off, hA, hlt, fun i v hv => hc i v ?_⟩
  rw [List.getElem?_take] at hv
  split at hv
  · exact hv
  · cases hv
def W32 (xs : List Int) : Prop := ∀ x ∈ xs, -2147483648 ≤ x ∧ x ≤ 2147483647
theorem W32.take {xs : List Int} (h : W32 xs) (j : Nat) : W32 (xs.take j) := fun x hx => h x (List.mem_of_mem_take hx)
/-- What a position says. -/
structure PosD where
  vars : List Int
  gone : List Bool
  tips : List (List Int)
  roll : Rl
/-- A position's three slices read so. -/
structure PosAt (w : World) (A B C : Option Addr) (n m k : Nat) (x : PosD) : Prop where
  vars : Sl (Value.int .i32) w A n x.vars
  gone : Sl Value.bool w B m x.gone
  tips : Sln 8 digL w C k x.tips
  w32 : W32 x.vars
  digs : ∀ d ∈ x.tips, Dig d
  ok : x.roll.Ok
theorem PosAt.below {w w' : World} {A B C : Option Addr} {n m k : Nat} {x : PosD} (h : PosAt w A B C n m k x) (hb : Below w.heap.size w w') : PosAt w' A B C n m k x :=
  ⟨h.vars.below hb, h.gone.below hb, h.tips.below hb, h.w32, h.digs, h.ok⟩
/-- A position, of at most 70 cells, 10 gone, 10 tips. -/
def PosD.cut (x : PosD) : PosD := ⟨x.vars.take 70, x.gone.take 10, x.tips.take 10, x.roll⟩
theorem PosAt.cut {w : World} {A B C : Option Addr} {n m k : Nat} {x : PosD} (h : PosAt w A B C n m k x) : PosAt w A B C (min n 70) (min m 10) (min k 10) x.cut :=
  ⟨h.vars.take 70, h.gone.take 10, h.tips.take 10, h.w32.take 70, fun d hd => h.digs d (List.mem_of_mem_take hd), h.ok⟩
theorem wf32 {x : Int} (h : (Lit.int .i32 x).wf = true) : -2147483648 ≤ x ∧ x ≤ 2147483647 := by
  simp only [Lit.wf, Bool.and_eq_true, decide_eq_true_eq] at h
  exact h
theorem u8_in {x : Int} (h : (Lit.int .u8 x).wf = true) : 0 ≤ x ∧ x ≤ 255 := by
  simp only [Lit.wf, Bool.and_eq_true, decide_eq_true_eq] at h
  exact h
theorem posCells : Tryz.prog.cellsOf 37 = 8 := by kernel_rfl
theorem i32sCells : Tryz.prog.cellsOf 31 = 1 := by kernel_rfl
theorem boolsCells : Tryz.prog.cellsOf 32 = 1 := by kernel_rfl
theorem digsCells : Tryz.prog.cellsOf 33 = 1 := by kernel_rfl
section
variable {H : Type} {enc : TypeId × Value → H} {W : World} {base : Nat} {spare : Nat → Bool} {held : Bool}
theorem roll_in {fuel : Nat} {cs : List Value} {x : DataW H × List MemPlace} (h : DataW.trod enc Tryz.prog W base spare held fuel 35 cs = some x) : ∃ r : Rl, r.Ok ∧ cs = r.cells := by
  obtain ⟨xs, n, rfl, rfl, hl, hx, hi⟩ := DataW.trod_struct Tryz.underlying35 h
  rw [rollCells] at hl
  have hxl : xs.length = 5 := by rw [hx]; kernel_rfl
  match cs, hl with
  | [c0, c1, c2, c3, c4], _ =>
  match xs, hxl with
  | [x0, x1, x2, x3, x4], _ =>
  have e0 : DataW.trod enc Tryz.prog W base spare held n 3 (([c0, c1, c2, c3, c4].drop 0).take (Tryz.prog.cellsOf 3)) = _ := hi 0 _ rfl
  have e1 : DataW.trod enc Tryz.prog W base spare held n 3 (([c0, c1, c2, c3, c4].drop 1).take (Tryz.prog.cellsOf 3)) = _ := hi 1 _ rfl
  have e2 : DataW.trod enc Tryz.prog W base spare held n 3 (([c0, c1, c2, c3, c4].drop 2).take (Tryz.prog.cellsOf 3)) = _ := hi 2 _ rfl
  have e3 : DataW.trod enc Tryz.prog W base spare held n 3 (([c0, c1, c2, c3, c4].drop 3).take (Tryz.prog.cellsOf 3)) = _ := hi 3 _ rfl
  have e4 : DataW.trod enc Tryz.prog W base spare held n 22 (([c0, c1, c2, c3, c4].drop 4).take (Tryz.prog.cellsOf 22)) = _ := hi 4 _ rfl
  simp only [intCells, u64Cells, List.getElem?_cons_zero, List.getElem?_cons_succ, List.drop_zero, List.drop_succ_cons, List.take_succ_cons, List.take_zero] at e0 e1 e2 e3 e4
  obtain ⟨a0, q0, _, w0⟩ := DataW.trod_int Tryz.underlying3 e0
  obtain ⟨a1, q1, _, w1⟩ := DataW.trod_int Tryz.underlying3 e1
  obtain ⟨a2, q2, _, w2⟩ := DataW.trod_int Tryz.underlying3 e2
  obtain ⟨a3, q3, _, w3⟩ := DataW.trod_int Tryz.underlying3 e3
  obtain ⟨a4, q4, _, w4⟩ := DataW.trod_int Tryz.underlying22 e4
  simp at q0 q1 q2 q3 q4
  subst q0 q1 q2 q3 q4
  exact ⟨⟨a0, a1, a2, a3, a4⟩, ⟨w0, w1, w2, w3, w4⟩, rfl⟩
theorem dig_in {fuel : Nat} {cs : List Value} {x : DataW H × List MemPlace} (h : DataW.trod enc Tryz.prog W base spare held fuel 29 cs = some x) : ∃ d : List Int, cs = digL d ∧ Dig d := by
  obtain ⟨xs, n, rfl, _, hl, hlen, hi⟩ := DataW.trod_array Tryz.underlying29 h
  rw [digCells] at hl
  rw [u8Cells] at hi
  match cs, hl with
  | [c0, c1, c2, c3, c4, c5, c6, c7], _ =>
  match xs, hlen with
  | [x0, x1, x2, x3, x4, x5, x6, x7], _ =>
  have e0 := hi 0 (by omega)
  have e1 := hi 1 (by omega)
  have e2 := hi 2 (by omega)
  have e3 := hi 3 (by omega)
  have e4 := hi 4 (by omega)
  have e5 := hi 5 (by omega)
  have e6 := hi 6 (by omega)
  have e7 := hi 7 (by omega)
  simp only [Nat.mul_one, List.getElem?_cons_zero, List.getElem?_cons_succ, List.drop_zero, List.drop_succ_cons, List.take_succ_cons, List.take_zero] at e0 e1 e2 e3 e4 e5 e6 e7
  obtain ⟨a0, q0, _, w0⟩ := DataW.trod_int Tryz.underlying5 e0
  obtain ⟨a1, q1, _, w1⟩ := DataW.trod_int Tryz.underlying5 e1
  obtain ⟨a2, q2, _, w2⟩ := DataW.trod_int Tryz.underlying5 e2
  obtain ⟨a3, q3, _, w3⟩ := DataW.trod_int Tryz.underlying5 e3
  obtain ⟨a4, q4, _, w4⟩ := DataW.trod_int Tryz.underlying5 e4
  obtain ⟨a5, q5, _, w5⟩ := DataW.trod_int Tryz.underlying5 e5
  obtain ⟨a6, q6, _, w6⟩ := DataW.trod_int Tryz.underlying5 e6
  obtain ⟨a7, q7, _, w7⟩ := DataW.trod_int Tryz.underlying5 e7
  simp only [List.cons.injEq, and_true] at q0 q1 q2 q3 q4 q5 q6 q7
  subst q0 q1 q2 q3 q4 q5 q6 q7
  refine ⟨[a0, a1, a2, a3, a4, a5, a6, a7], rfl, rfl, ?_⟩
  intro b hb
  simp only [List.mem_cons, List.not_mem_nil, or_false] at hb
  rcases hb with rfl | rfl | rfl | rfl | rfl | rfl | rfl | rfl
  all_goals (apply u8_in; assumption)
theorem slice_shape {t e : TypeId} {fuel : Nat} {v : Value} {x : DataW H × List MemPlace} (ht : Tryz.prog.underlying t = some (.slice e)) (h : DataW.trod enc Tryz.prog W base spare held fuel t [v] = some x) : ∃ A n c, v = .slice A n c ∧ n ≤ c := by
  rcases Go.Deep.open_slice ht h with ⟨hcs, _⟩ | ⟨y, l, c, _, _, _, _, hcs, _, hlc, _⟩
  · simp at hcs; exact ⟨_, _, _, hcs, Nat.le_refl _⟩
  · simp at hcs; exact ⟨_, _, _, hcs, hlc⟩
theorem pos_in {fuel : Nat} {cs : List Value} {x : DataW H × List MemPlace} (h : DataW.trod enc Tryz.prog W base spare held fuel 37 cs = some x) :
    ∃ (A B C : Option Addr) (n c m d k e : Nat) (y : PosD), PosAt W A B C n m k y ∧ cs = [.slice A n c, .slice B m d, .slice C k e] ++ y.roll.cells ∧ (A = none → c = 0) ∧ (B = none → d = 0) ∧ (C = none → e = 0) ∧ n ≤ c ∧ m ≤ d ∧ k ≤ e := by
  obtain ⟨xs, n, rfl, rfl, hl, hx, hi⟩ := DataW.trod_struct Tryz.underlying37 h
  rw [posCells] at hl
  have hxl : xs.length = 4 := by rw [hx]; kernel_rfl
  match cs, hl with
  | [c0, c1, c2, c3, c4, c5, c6, c7], _ =>
  match xs, hxl with
  | [x0, x1, x2, x3], _ =>
  have e0 : DataW.trod enc Tryz.prog W base spare held n 31 (([c0, c1, c2, c3, c4, c5, c6, c7].drop 0).take (Tryz.prog.cellsOf 31)) = _ := hi 0 _ rfl
  have e1 : DataW.trod enc Tryz.prog W base spare held n 32 (([c0, c1, c2, c3, c4, c5, c6, c7].drop 1).take (Tryz.prog.cellsOf 32)) = _ := hi 1 _ rfl
  have e2 : DataW.trod enc Tryz.prog W base spare held n 33 (([c0, c1, c2, c3, c4, c5, c6, c7].drop 2).take (Tryz.prog.cellsOf 33)) = _ := hi 2 _ rfl
  have e3 : DataW.trod enc Tryz.prog W base spare held n 35 (([c0, c1, c2, c3, c4, c5, c6, c7].drop 3).take (Tryz.prog.cellsOf 35)) = _ := hi 3 _ rfl
  simp only [i32sCells, boolsCells, digsCells, rollCells, List.getElem?_cons_zero, List.getElem?_cons_succ, List.drop_zero, List.drop_succ_cons, List.take_succ_cons, List.take_zero] at e0 e1 e2 e3
  obtain ⟨A, n0, c0', rfl, q0⟩ := slice_shape Tryz.underlying31 e0
  obtain ⟨B, n1, c1', rfl, q1⟩ := slice_shape Tryz.underlying32 e1
  obtain ⟨C, n2, c2', rfl, q2⟩ := slice_shape Tryz.underlying33 e2
  obtain ⟨vs, h0, w0, z0⟩ := ints_in Tryz.underlying31 Tryz.underlying21 (by kernel_rfl) e0
  obtain ⟨gs, h1, z1⟩ := bools_in Tryz.underlying32 Tryz.underlying4 (by kernel_rfl) e1
  obtain ⟨ts, h2, w2, z2⟩ := sliceN_in 8 digL Dig Tryz.underlying33 digCells (by omega) (fun n cs y _ hy => dig_in hy) e2
  obtain ⟨r, hr, hrc⟩ := roll_in e3
  exact ⟨A, B, C, n0, c0', n1, c1', n2, c2', ⟨vs, gs, ts, r⟩, ⟨h0, h1, h2, fun x hx => wf32 (w0 x hx), w2, hr⟩, by rw [← hrc]; rfl, z0, z1, z2, q0, q1, q2⟩
theorem pos_val {v : Value} {d : DataW H} {p : List MemPlace} {b0 : Nat} (hv : Value.okWide Tryz.prog W .any b0 37 v) (h : DataW.Trod enc Tryz.prog W base spare held 37 v d p) :
    ∃ (A B C : Option Addr) (n c m d k e : Nat) (y : PosD), PosAt W A B C n m k y ∧ v = .agg #[.slice A n c, .slice B m d, .slice C k e, .int .i64 y.roll.cell, .int .i64 y.roll.sides, .int .i64 y.roll.mover, .int .i64 y.roll.next, .int .u64 y.roll.sum] ∧ (A = none → c = 0) ∧ (B = none → d = 0) ∧ (C = none → e = 0) ∧ n ≤ c ∧ m ≤ d ∧ k ≤ e := by
  obtain ⟨cs, rfl, hsz⟩ := okWide_struct Tryz.underlying37 hv
  obtain ⟨fuel, hf⟩ := h
  obtain ⟨A, B, C, n, c, m, d, k, e, y, h1, h2, h3⟩ := pos_in hf
  refine ⟨A, B, C, n, c, m, d, k, e, y, h1, ?_, h3⟩
  congr 1
  exact Array.toList_inj.1 h2
end
end Go.Proofs.YtalbjjimnhldfaaGreatDoor
