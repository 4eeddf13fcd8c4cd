/- A table within another one goes as it would by itself: the law: behind the first loop. -/
import Derived.Test.YtfkacmmcgncooaaGreatDoorYw9D
set_option maxRecDepth 100000
namespace Go.Proofs.YtfkacmmcgncooaaGreatDoor
open Go.Ev
variable [Frozen Tryz.prog]
set_option maxHeartbeats 16000000 in
theorem rl1 (p1 : PoA) (x1 : Int) (y1 : Int) (w3 : Option AO) (w4 : Option AO) (w5 : Option AO) (w6 : Option AO) (w7 : Option AO) (g1 : RuA) (g9 : RuA) (p9 : PoA) (a : InA) (i : Int) (G1 : isGx g1 p1) (X1 : smQ x1) (Y1 : smQ y1) (S9 : stQ g9 p9) (hL : LB2 a) : RL1 p1 x1 y1 w3 w4 w5 w6 w7 g1 g9 p9 a := by
  have Gx1 := G1
  have Xx1 := X1
  have Yx1 := Y1
  obtain ⟨k1, j1, h1⟩ := G1
  obtain ⟨v11, v12, v13, v14, v15, v16, v17, v18, v19, v110, v111⟩ := flG_of h1
  obtain ⟨s11, s12⟩ := X1
  obtain ⟨s13, s14⟩ := Y1
  have f12 := fl11
  have f13 := fl00
  have gl0 : FlatL cells0 := flatAll (by kernel_rfl)
  have gl1 : FlatL cells1 := flatAll (by kernel_rfl)
  have gl2 : FlatL cells2 := flatAll (by kernel_rfl)
  have gl4 : FlatL cells4 := flatAll (by kernel_rfl)
  have gl5 : FlatL cells5 := flatAll (by kernel_rfl)
  have gl6 : FlatL cells6 := flatAll (by kernel_rfl)
  have gl8 : FlatL cells8 := flatAll (by kernel_rfl)
  have gl9 : FlatL cells9 := flatAll (by kernel_rfl)
  have gl10 : FlatL cells10 := flatAll (by kernel_rfl)
  have S9x := S9
  obtain ⟨k9, h9⟩ := S9
  obtain ⟨v91, v92, v93, v94, v95, v96, v97, v98, v99, v910, v911⟩ := flG_of h9
  have G9 : isGx g9 p9 := ⟨k9, 0, h9⟩
  have t1 := fl2t x1 y1
  have Z0 : smQ (Int.ofNat 0) := ⟨Int.le_refl _, by decide⟩
  have t9 := fl2t (Int.ofNat 0) (Int.ofNat 0)
  unfold RL1
  (repeat(apply And.intro;focus(and_intros<;>first|trivial|rfl)))
  refine ⟨⟨trivial, k1, j1, h1.1, h1.2.2⟩, by (and_intros<;>first|trivial|rfl), fun _ _ => ?_, trivial⟩
  (repeat(apply And.intro;focus(and_intros<;>first|trivial|rfl)))
  refine ⟨⟨trivial, ⟨Nat.le_refl _, Nat.le_refl _, t1⟩, x1, y1, rfl⟩, by (and_intros<;>first|trivial|rfl), fun a1 ha1 => ?_, trivial⟩
  obtain ⟨a11, a12⟩ := lw2 ha1
  (repeat(apply And.intro;focus(and_intros<;>first|trivial|rfl)))
  refine ⟨fun _ hok => ?_, fun _ _ => ?_, trivial⟩
  · (repeat(apply And.intro;focus(and_intros<;>first|trivial|rfl)))
    refine ⟨fun _ _ => ?_, trivial⟩
    (repeat(apply And.intro;focus(and_intros<;>first|trivial|rfl)))
    intro x9_ e9
    have e9 := e9.symm
    refine ⟨⟨⟨⟨⟨g1, p1, x1, y1⟩, ⟨g9, p9, 0, 0⟩, ⟨g1, p1, x1, y1⟩, ⟨g1, p1, x1, y1⟩⟩, 0⟩, ⟨⟨Int.le_refl _, by show (0 : Int) ≤ a.m; omega⟩, ⟨Gx1, Xx1, Yx1⟩, ⟨G9, Z0, Z0⟩⟩, ?_⟩, hL, trivial⟩
    (and_intros<;>first|trivial|rfl)
  · skip
    (repeat(apply And.intro;focus(and_intros<;>first|trivial|rfl)))
    refine ⟨(), ?_⟩
    (and_intros<;>first|trivial|rfl)
set_option maxHeartbeats 16000000 in
theorem rl2 (p2 : PoA) (x2 : Int) (y2 : Int) (w3 : Option AO) (w4 : Option AO) (w5 : Option AO) (w6 : Option AO) (w7 : Option AO) (g2 : RuA) (g9 : RuA) (p9 : PoA) (p1 : PoA) (x1 : Int) (y1 : Int) (a : InA) (g1 : RuA) (i : Int) (G1 : isGx g1 p1) (X1 : smQ x1) (Y1 : smQ y1) (G2 : isGx g2 p2) (X2 : smQ x2) (Y2 : smQ y2) (S9 : stQ g9 p9) (hL : LB3 a) : RL2 p2 x2 y2 w3 w4 w5 w6 w7 g2 g9 p9 p1 x1 y1 a g1 := by
  have Gx1 := G1
  have Xx1 := X1
  have Yx1 := Y1
  obtain ⟨k1, j1, h1⟩ := G1
  obtain ⟨v11, v12, v13, v14, v15, v16, v17, v18, v19, v110, v111⟩ := flG_of h1
  obtain ⟨s11, s12⟩ := X1
  obtain ⟨s13, s14⟩ := Y1
  have Gx2 := G2
  have Xx2 := X2
  have Yx2 := Y2
  obtain ⟨k2, j2, h2⟩ := G2
  obtain ⟨v21, v22, v23, v24, v25, v26, v27, v28, v29, v210, v211⟩ := flG_of h2
  obtain ⟨s21, s22⟩ := X2
  obtain ⟨s23, s24⟩ := Y2
  have f12 := fl11
  have f13 := fl00
  have gl0 : FlatL cells0 := flatAll (by kernel_rfl)
  have gl1 : FlatL cells1 := flatAll (by kernel_rfl)
  have gl2 : FlatL cells2 := flatAll (by kernel_rfl)
  have gl4 : FlatL cells4 := flatAll (by kernel_rfl)
  have gl5 : FlatL cells5 := flatAll (by kernel_rfl)
  have gl6 : FlatL cells6 := flatAll (by kernel_rfl)
  have gl8 : FlatL cells8 := flatAll (by kernel_rfl)
  have gl9 : FlatL cells9 := flatAll (by kernel_rfl)
  have gl10 : FlatL cells10 := flatAll (by kernel_rfl)
  have S9x := S9
  obtain ⟨k9, h9⟩ := S9
  obtain ⟨v91, v92, v93, v94, v95, v96, v97, v98, v99, v910, v911⟩ := flG_of h9
  have G9 : isGx g9 p9 := ⟨k9, 0, h9⟩
  have t2 := fl2t x2 y2
  have Z0 : smQ (Int.ofNat 0) := ⟨Int.le_refl _, by decide⟩
  have t9 := fl2t (Int.ofNat 0) (Int.ofNat 0)
  unfold RL2
  (repeat(apply And.intro;focus(and_intros<;>first|trivial|rfl)))
  refine ⟨⟨trivial, k2, j2, h2.1, h2.2.2⟩, by (and_intros<;>first|trivial|rfl), fun _ _ => ?_, trivial⟩
  (repeat(apply And.intro;focus(and_intros<;>first|trivial|rfl)))
  refine ⟨⟨trivial, ⟨Nat.le_refl _, Nat.le_refl _, t2⟩, x2, y2, rfl⟩, by (and_intros<;>first|trivial|rfl), fun a1 ha1 => ?_, trivial⟩
  obtain ⟨a11, a12⟩ := lw2 ha1
  (repeat(apply And.intro;focus(and_intros<;>first|trivial|rfl)))
  refine ⟨fun _ hok => ?_, fun _ _ => ?_, trivial⟩
  · (repeat(apply And.intro;focus(and_intros<;>first|trivial|rfl)))
    refine ⟨fun _ _ => ?_, trivial⟩
    (repeat(apply And.intro;focus(and_intros<;>first|trivial|rfl)))
    intro x9_ e9
    have e9 := e9.symm
    refine ⟨⟨⟨⟨⟨g1, p1, x1, y1⟩, ⟨g2, p2, x2, y2⟩, ⟨g9, p9, 0, 0⟩, ⟨g1, p1, x1, y1⟩⟩, 0⟩, ⟨⟨Int.le_refl _, by show (0 : Int) ≤ a.m; omega⟩, ⟨Gx1, Xx1, Yx1⟩, ⟨Gx2, Xx2, Yx2⟩, ⟨G9, Z0, Z0⟩⟩, ?_⟩, hL, trivial⟩
    (and_intros<;>first|trivial|rfl)
  · skip
    (repeat(apply And.intro;focus(and_intros<;>first|trivial|rfl)))
    refine ⟨(), ?_⟩
    (and_intros<;>first|trivial|rfl)
set_option maxHeartbeats 16000000 in
theorem rl3 (p3 : PoA) (x3 : Int) (y3 : Int) (w3 : Option AO) (w4 : Option AO) (w5 : Option AO) (w6 : Option AO) (w7 : Option AO) (g3 : RuA) (g9 : RuA) (p9 : PoA) (p1 : PoA) (p2 : PoA) (x1 : Int) (y1 : Int) (x2 : Int) (y2 : Int) (a : InA) (g1 : RuA) (g2 : RuA) (i : Int) (G1 : isGx g1 p1) (X1 : smQ x1) (Y1 : smQ y1) (G2 : isGx g2 p2) (X2 : smQ x2) (Y2 : smQ y2) (G3 : isGx g3 p3) (X3 : smQ x3) (Y3 : smQ y3) (S9 : stQ g9 p9) (hL : LB4 a) : RL3 p3 x3 y3 w3 w4 w5 w6 w7 g3 g9 p9 p1 p2 x1 y1 x2 y2 a g1 g2 := by
  have Gx1 := G1
  have Xx1 := X1
  have Yx1 := Y1
  obtain ⟨k1, j1, h1⟩ := G1
  obtain ⟨v11, v12, v13, v14, v15, v16, v17, v18, v19, v110, v111⟩ := flG_of h1
  obtain ⟨s11, s12⟩ := X1
  obtain ⟨s13, s14⟩ := Y1
  have Gx2 := G2
  have Xx2 := X2
  have Yx2 := Y2
  obtain ⟨k2, j2, h2⟩ := G2
  obtain ⟨v21, v22, v23, v24, v25, v26, v27, v28, v29, v210, v211⟩ := flG_of h2
  obtain ⟨s21, s22⟩ := X2
  obtain ⟨s23, s24⟩ := Y2
  have Gx3 := G3
  have Xx3 := X3
  have Yx3 := Y3
  obtain ⟨k3, j3, h3⟩ := G3
  obtain ⟨v31, v32, v33, v34, v35, v36, v37, v38, v39, v310, v311⟩ := flG_of h3
  obtain ⟨s31, s32⟩ := X3
  obtain ⟨s33, s34⟩ := Y3
  have f12 := fl11
  have f13 := fl00
  have gl0 : FlatL cells0 := flatAll (by kernel_rfl)
  have gl1 : FlatL cells1 := flatAll (by kernel_rfl)
  have gl2 : FlatL cells2 := flatAll (by kernel_rfl)
  have gl4 : FlatL cells4 := flatAll (by kernel_rfl)
  have gl5 : FlatL cells5 := flatAll (by kernel_rfl)
  have gl6 : FlatL cells6 := flatAll (by kernel_rfl)
  have gl8 : FlatL cells8 := flatAll (by kernel_rfl)
  have gl9 : FlatL cells9 := flatAll (by kernel_rfl)
  have gl10 : FlatL cells10 := flatAll (by kernel_rfl)
  have S9x := S9
  obtain ⟨k9, h9⟩ := S9
  obtain ⟨v91, v92, v93, v94, v95, v96, v97, v98, v99, v910, v911⟩ := flG_of h9
  have G9 : isGx g9 p9 := ⟨k9, 0, h9⟩
  have t3 := fl2t x3 y3
  have Z0 : smQ (Int.ofNat 0) := ⟨Int.le_refl _, by decide⟩
  have t9 := fl2t (Int.ofNat 0) (Int.ofNat 0)
  unfold RL3
  (repeat(apply And.intro;focus(and_intros<;>first|trivial|rfl)))
  refine ⟨⟨trivial, k3, j3, h3.1, h3.2.2⟩, by (and_intros<;>first|trivial|rfl), fun _ _ => ?_, trivial⟩
  (repeat(apply And.intro;focus(and_intros<;>first|trivial|rfl)))
  refine ⟨⟨trivial, ⟨Nat.le_refl _, Nat.le_refl _, t3⟩, x3, y3, rfl⟩, by (and_intros<;>first|trivial|rfl), fun a1 ha1 => ?_, trivial⟩
  obtain ⟨a11, a12⟩ := lw2 ha1
  (repeat(apply And.intro;focus(and_intros<;>first|trivial|rfl)))
  refine ⟨fun _ hok => ?_, fun _ _ => ?_, trivial⟩
  · (repeat(apply And.intro;focus(and_intros<;>first|trivial|rfl)))
    refine ⟨fun _ _ => ?_, trivial⟩
    (repeat(apply And.intro;focus(and_intros<;>first|trivial|rfl)))
    intro x9_ e9
    have e9 := e9.symm
    refine ⟨⟨⟨⟨⟨g1, p1, x1, y1⟩, ⟨g2, p2, x2, y2⟩, ⟨g3, p3, x3, y3⟩, ⟨g9, p9, 0, 0⟩⟩, 0⟩, ⟨⟨Int.le_refl _, by show (0 : Int) ≤ a.m; omega⟩, ⟨Gx1, Xx1, Yx1⟩, ⟨Gx2, Xx2, Yx2⟩, ⟨Gx3, Xx3, Yx3⟩, ⟨G9, Z0, Z0⟩⟩, ?_⟩, hL, trivial⟩
    (and_intros<;>first|trivial|rfl)
  · skip
    (repeat(apply And.intro;focus(and_intros<;>first|trivial|rfl)))
    refine ⟨(), ?_⟩
    (and_intros<;>first|trivial|rfl)
set_option maxHeartbeats 16000000 in
theorem rl4 (p4 : PoA) (x4 : Int) (y4 : Int) (w3 : Option AO) (w4 : Option AO) (w5 : Option AO) (w6 : Option AO) (w7 : Option AO) (p9 : PoA) (p1 : PoA) (p2 : PoA) (p3 : PoA) (x1 : Int) (y1 : Int) (x2 : Int) (y2 : Int) (x3 : Int) (y3 : Int) (g1 : RuA) (g2 : RuA) (g3 : RuA) (g4 : RuA) (g9 : RuA) (i : Int) (a : InA) (G1 : isGx g1 p1) (X1 : smQ x1) (Y1 : smQ y1) (G2 : isGx g2 p2) (X2 : smQ x2) (Y2 : smQ y2) (G3 : isGx g3 p3) (X3 : smQ x3) (Y3 : smQ y3) (G4 : isGx g4 p4) (X4 : smQ x4) (Y4 : smQ y4) (S9 : stQ g9 p9) : RL4 p4 x4 y4 w3 w4 w5 w6 w7 p9 p1 p2 p3 x1 y1 x2 y2 x3 y3 := by
  have Gx1 := G1
  have Xx1 := X1
  have Yx1 := Y1
  obtain ⟨k1, j1, h1⟩ := G1
  obtain ⟨v11, v12, v13, v14, v15, v16, v17, v18, v19, v110, v111⟩ := flG_of h1
  obtain ⟨s11, s12⟩ := X1
  obtain ⟨s13, s14⟩ := Y1
  have Gx2 := G2
  have Xx2 := X2
  have Yx2 := Y2
  obtain ⟨k2, j2, h2⟩ := G2
  obtain ⟨v21, v22, v23, v24, v25, v26, v27, v28, v29, v210, v211⟩ := flG_of h2
  obtain ⟨s21, s22⟩ := X2
  obtain ⟨s23, s24⟩ := Y2
  have Gx3 := G3
  have Xx3 := X3
  have Yx3 := Y3
  obtain ⟨k3, j3, h3⟩ := G3
  obtain ⟨v31, v32, v33, v34, v35, v36, v37, v38, v39, v310, v311⟩ := flG_of h3
  obtain ⟨s31, s32⟩ := X3
  obtain ⟨s33, s34⟩ := Y3
  have Gx4 := G4
  have Xx4 := X4
  have Yx4 := Y4
  obtain ⟨k4, j4, h4⟩ := G4
  obtain ⟨v41, v42, v43, v44, v45, v46, v47, v48, v49, v410, v411⟩ := flG_of h4
  obtain ⟨s41, s42⟩ := X4
  obtain ⟨s43, s44⟩ := Y4
  have f12 := fl11
  have f13 := fl00
  have gl0 : FlatL cells0 := flatAll (by kernel_rfl)
  have gl1 : FlatL cells1 := flatAll (by kernel_rfl)
  have gl2 : FlatL cells2 := flatAll (by kernel_rfl)
  have gl4 : FlatL cells4 := flatAll (by kernel_rfl)
  have gl5 : FlatL cells5 := flatAll (by kernel_rfl)
  have gl6 : FlatL cells6 := flatAll (by kernel_rfl)
  have gl8 : FlatL cells8 := flatAll (by kernel_rfl)
  have gl9 : FlatL cells9 := flatAll (by kernel_rfl)
  have gl10 : FlatL cells10 := flatAll (by kernel_rfl)
  have S9x := S9
  obtain ⟨k9, h9⟩ := S9
  obtain ⟨v91, v92, v93, v94, v95, v96, v97, v98, v99, v910, v911⟩ := flG_of h9
  have G9 : isGx g9 p9 := ⟨k9, 0, h9⟩
  have t4 := fl2t x4 y4
  have Z0 : smQ (Int.ofNat 0) := ⟨Int.le_refl _, by decide⟩
  have t9 := fl2t (Int.ofNat 0) (Int.ofNat 0)
  unfold RL4
  (repeat(apply And.intro;focus(and_intros<;>first|trivial|rfl)))
  refine ⟨⟨trivial, k4, j4, h4.1, h4.2.2⟩, by (and_intros<;>first|trivial|rfl), fun _ _ => ?_, trivial⟩
  (repeat(apply And.intro;focus(and_intros<;>first|trivial|rfl)))
  refine ⟨⟨trivial, ⟨Nat.le_refl _, Nat.le_refl _, t4⟩, x4, y4, rfl⟩, by (and_intros<;>first|trivial|rfl), fun a1 ha1 => ?_, trivial⟩
  obtain ⟨a11, a12⟩ := lw2 ha1
  (repeat(apply And.intro;focus(and_intros<;>first|trivial|rfl)))
  refine ⟨fun _ _ => ?_, trivial⟩
  (repeat(apply And.intro;focus(and_intros<;>first|trivial|rfl)))
  refine ⟨(), ?_⟩
  (and_intros<;>first|trivial|rfl)
end Go.Proofs.YtfkacmmcgncooaaGreatDoor
