/- A table within another one goes as it would by itself: the law: what follows an act. -/
import Derived.Test.YtfkacmmcgncooaaGreatDoorYw9D
section
set_option maxRecDepth 100000
namespace Go.Proofs.YtfkacmmcgncooaaGreatDoor
open Go.Ev
variable [Frozen Tryz.prog]
set_option maxHeartbeats 4000000 in
theorem ta1 (i : Int) (a : InA) (p1 : PoA) (x1 : Int) (y1 : Int) (g1 : RuA) (g9 : RuA) (p9 : PoA) (i1 : 0 ≤ i) (hlt : i < a.l) (hla : (a.l : Int) ≤ 9223372036854775807) (G1 : isGx g1 p1) (X1 : smQ x1) (Y1 : smQ y1) (S9 : stQ g9 p9) (tot : (x1 + y1) = a.x + a.y) : TA1 i a p1 x1 y1 g1 g9 p9 := by
  have Gx1 := G1
  have Xx1 := X1
  have Yx1 := Y1
  obtain ⟨k1, j1, h1⟩ := G1
  obtain ⟨v11, v12, v13, v14, v15, v16, v17, v18, v19, v110, v111⟩ := flG_of h1
  obtain ⟨s11, s12⟩ := X1
  obtain ⟨s13, s14⟩ := Y1
  have f12 := fl11
  have f13 := fl00
  have gl0 : FlatL cells0 := flatAll (by kernel_rfl)
  have gl1 : FlatL cells1 := flatAll (by kernel_rfl)
  have gl2 : FlatL cells2 := flatAll (by kernel_rfl)
  have gl4 : FlatL cells4 := flatAll (by kernel_rfl)
  have gl5 : FlatL cells5 := flatAll (by kernel_rfl)
  have gl6 : FlatL cells6 := flatAll (by kernel_rfl)
  have gl8 : FlatL cells8 := flatAll (by kernel_rfl)
  have gl9 : FlatL cells9 := flatAll (by kernel_rfl)
  have gl10 : FlatL cells10 := flatAll (by kernel_rfl)
  have S9x := S9
  obtain ⟨k9, h9⟩ := S9
  obtain ⟨v91, v92, v93, v94, v95, v96, v97, v98, v99, v910, v911⟩ := flG_of h9
  have G9 : isGx g9 p9 := ⟨k9, 0, h9⟩
  unfold TA1
  (repeat(apply And.intro;focus(and_intros<;>first|trivial|rfl)))
  intro y6_ e6
  rw [wr64 (by omega)] at e6
  have e6 := e6.symm
  refine ⟨⟨⟨⟨g1, p1, x1, y1⟩, ⟨g1, p1, x1, y1⟩, ⟨g1, p1, x1, y1⟩, ⟨g1, p1, x1, y1⟩⟩, i + 1, g9, p9⟩, ⟨monI (d := 1) (e := ⟨⟨⟨g1, p1, x1, y1⟩, ⟨g1, p1, x1, y1⟩, ⟨g1, p1, x1, y1⟩, ⟨g1, p1, x1, y1⟩⟩, i + 1⟩) ⟨by show 0 ≤ i + 1; omega, by show i + 1 ≤ (a.l : Int); omega⟩ ⟨⟨k1, j1, h1⟩, smI s11 s12, smI s13 s14⟩ (by show (x1 + y1) = a.x + a.y; omega), S9x⟩, by show ((a.l : Int) - (i + 1)).toNat < ((a.l : Int) - i).toNat; omega, ?_⟩
  (and_intros<;>first|trivial|rfl)
set_option maxHeartbeats 4000000 in
theorem ta2 (i : Int) (a : InA) (p1 : PoA) (p2 : PoA) (x1 : Int) (y1 : Int) (x2 : Int) (y2 : Int) (g1 : RuA) (g2 : RuA) (g9 : RuA) (p9 : PoA) (i1 : 0 ≤ i) (hlt : i < a.l) (hla : (a.l : Int) ≤ 9223372036854775807) (G1 : isGx g1 p1) (X1 : smQ x1) (Y1 : smQ y1) (G2 : isGx g2 p2) (X2 : smQ x2) (Y2 : smQ y2) (S9 : stQ g9 p9) (tot : (x1 + y1) + (x2 + y2) = a.x + a.y) : TA2 i a p1 p2 x1 y1 x2 y2 g1 g2 g9 p9 := by
  have Gx1 := G1
  have Xx1 := X1
  have Yx1 := Y1
  obtain ⟨k1, j1, h1⟩ := G1
  obtain ⟨v11, v12, v13, v14, v15, v16, v17, v18, v19, v110, v111⟩ := flG_of h1
  obtain ⟨s11, s12⟩ := X1
  obtain ⟨s13, s14⟩ := Y1
  have Gx2 := G2
  have Xx2 := X2
  have Yx2 := Y2
  obtain ⟨k2, j2, h2⟩ := G2
  obtain ⟨v21, v22, v23, v24, v25, v26, v27, v28, v29, v210, v211⟩ := flG_of h2
  obtain ⟨s21, s22⟩ := X2
  obtain ⟨s23, s24⟩ := Y2
  have f12 := fl11
  have f13 := fl00
  have gl0 : FlatL cells0 := flatAll (by kernel_rfl)
  have gl1 : FlatL cells1 := flatAll (by kernel_rfl)
  have gl2 : FlatL cells2 := flatAll (by kernel_rfl)
  have gl4 : FlatL cells4 := flatAll (by kernel_rfl)
  have gl5 : FlatL cells5 := flatAll (by kernel_rfl)
  have gl6 : FlatL cells6 := flatAll (by kernel_rfl)
  have gl8 : FlatL cells8 := flatAll (by kernel_rfl)
  have gl9 : FlatL cells9 := flatAll (by kernel_rfl)
  have gl10 : FlatL cells10 := flatAll (by kernel_rfl)
  have S9x := S9
  obtain ⟨k9, h9⟩ := S9
  obtain ⟨v91, v92, v93, v94, v95, v96, v97, v98, v99, v910, v911⟩ := flG_of h9
  have G9 : isGx g9 p9 := ⟨k9, 0, h9⟩
  unfold TA2
  (repeat(apply And.intro;focus(and_intros<;>first|trivial|rfl)))
  intro y6_ e6
  rw [wr64 (by omega)] at e6
  have e6 := e6.symm
  refine ⟨⟨⟨⟨g1, p1, x1, y1⟩, ⟨g2, p2, x2, y2⟩, ⟨g1, p1, x1, y1⟩, ⟨g1, p1, x1, y1⟩⟩, i + 1, g9, p9⟩, ⟨monI (d := 2) (e := ⟨⟨⟨g1, p1, x1, y1⟩, ⟨g2, p2, x2, y2⟩, ⟨g1, p1, x1, y1⟩, ⟨g1, p1, x1, y1⟩⟩, i + 1⟩) ⟨by show 0 ≤ i + 1; omega, by show i + 1 ≤ (a.l : Int); omega⟩ ⟨⟨⟨k1, j1, h1⟩, smI s11 s12, smI s13 s14⟩, ⟨⟨k2, j2, h2⟩, smI s21 s22, smI s23 s24⟩⟩ (by show (x1 + y1) + (x2 + y2) = a.x + a.y; omega), S9x⟩, by show ((a.l : Int) - (i + 1)).toNat < ((a.l : Int) - i).toNat; omega, ?_⟩
  (and_intros<;>first|trivial|rfl)
set_option maxHeartbeats 4000000 in
theorem ta3 (i : Int) (a : InA) (p1 : PoA) (p2 : PoA) (p3 : PoA) (x1 : Int) (y1 : Int) (x2 : Int) (y2 : Int) (x3 : Int) (y3 : Int) (g1 : RuA) (g2 : RuA) (g3 : RuA) (g9 : RuA) (p9 : PoA) (i1 : 0 ≤ i) (hlt : i < a.l) (hla : (a.l : Int) ≤ 9223372036854775807) (G1 : isGx g1 p1) (X1 : smQ x1) (Y1 : smQ y1) (G2 : isGx g2 p2) (X2 : smQ x2) (Y2 : smQ y2) (G3 : isGx g3 p3) (X3 : smQ x3) (Y3 : smQ y3) (S9 : stQ g9 p9) (tot : (x1 + y1) + (x2 + y2) + (x3 + y3) = a.x + a.y) : TA3 i a p1 p2 p3 x1 y1 x2 y2 x3 y3 g1 g2 g3 g9 p9 := by
  have Gx1 := G1
  have Xx1 := X1
  have Yx1 := Y1
  obtain ⟨k1, j1, h1⟩ := G1
  obtain ⟨v11, v12, v13, v14, v15, v16, v17, v18, v19, v110, v111⟩ := flG_of h1
  obtain ⟨s11, s12⟩ := X1
  obtain ⟨s13, s14⟩ := Y1
  have Gx2 := G2
  have Xx2 := X2
  have Yx2 := Y2
  obtain ⟨k2, j2, h2⟩ := G2
  obtain ⟨v21, v22, v23, v24, v25, v26, v27, v28, v29, v210, v211⟩ := flG_of h2
  obtain ⟨s21, s22⟩ := X2
  obtain ⟨s23, s24⟩ := Y2
  have Gx3 := G3
  have Xx3 := X3
  have Yx3 := Y3
  obtain ⟨k3, j3, h3⟩ := G3
  obtain ⟨v31, v32, v33, v34, v35, v36, v37, v38, v39, v310, v311⟩ := flG_of h3
  obtain ⟨s31, s32⟩ := X3
  obtain ⟨s33, s34⟩ := Y3
  have f12 := fl11
  have f13 := fl00
  have gl0 : FlatL cells0 := flatAll (by kernel_rfl)
  have gl1 : FlatL cells1 := flatAll (by kernel_rfl)
  have gl2 : FlatL cells2 := flatAll (by kernel_rfl)
  have gl4 : FlatL cells4 := flatAll (by kernel_rfl)
  have gl5 : FlatL cells5 := flatAll (by kernel_rfl)
  have gl6 : FlatL cells6 := flatAll (by kernel_rfl)
  have gl8 : FlatL cells8 := flatAll (by kernel_rfl)
  have gl9 : FlatL cells9 := flatAll (by kernel_rfl)
  have gl10 : FlatL cells10 := flatAll (by kernel_rfl)
  have S9x := S9
  obtain ⟨k9, h9⟩ := S9
  obtain ⟨v91, v92, v93, v94, v95, v96, v97, v98, v99, v910, v911⟩ := flG_of h9
  have G9 : isGx g9 p9 := ⟨k9, 0, h9⟩
  unfold TA3
  (repeat(apply And.intro;focus(and_intros<;>first|trivial|rfl)))
  intro y6_ e6
  rw [wr64 (by omega)] at e6
  have e6 := e6.symm
  refine ⟨⟨⟨⟨g1, p1, x1, y1⟩, ⟨g2, p2, x2, y2⟩, ⟨g3, p3, x3, y3⟩, ⟨g1, p1, x1, y1⟩⟩, i + 1, g9, p9⟩, ⟨monI (d := 3) (e := ⟨⟨⟨g1, p1, x1, y1⟩, ⟨g2, p2, x2, y2⟩, ⟨g3, p3, x3, y3⟩, ⟨g1, p1, x1, y1⟩⟩, i + 1⟩) ⟨by show 0 ≤ i + 1; omega, by show i + 1 ≤ (a.l : Int); omega⟩ ⟨⟨⟨k1, j1, h1⟩, smI s11 s12, smI s13 s14⟩, ⟨⟨k2, j2, h2⟩, smI s21 s22, smI s23 s24⟩, ⟨⟨k3, j3, h3⟩, smI s31 s32, smI s33 s34⟩⟩ (by show (x1 + y1) + (x2 + y2) + (x3 + y3) = a.x + a.y; omega), S9x⟩, by show ((a.l : Int) - (i + 1)).toNat < ((a.l : Int) - i).toNat; omega, ?_⟩
  (and_intros<;>first|trivial|rfl)
set_option maxHeartbeats 4000000 in
theorem ta4 (i : Int) (a : InA) (p1 : PoA) (p2 : PoA) (p3 : PoA) (p4 : PoA) (x1 : Int) (y1 : Int) (x2 : Int) (y2 : Int) (x3 : Int) (y3 : Int) (x4 : Int) (y4 : Int) (g1 : RuA) (g2 : RuA) (g3 : RuA) (g4 : RuA) (g9 : RuA) (p9 : PoA) (i1 : 0 ≤ i) (hlt : i < a.l) (hla : (a.l : Int) ≤ 9223372036854775807) (G1 : isGx g1 p1) (X1 : smQ x1) (Y1 : smQ y1) (G2 : isGx g2 p2) (X2 : smQ x2) (Y2 : smQ y2) (G3 : isGx g3 p3) (X3 : smQ x3) (Y3 : smQ y3) (G4 : isGx g4 p4) (X4 : smQ x4) (Y4 : smQ y4) (S9 : stQ g9 p9) (tot : (x1 + y1) + (x2 + y2) + (x3 + y3) + (x4 + y4) = a.x + a.y) : TA4 i a p1 p2 p3 p4 x1 y1 x2 y2 x3 y3 x4 y4 g1 g2 g3 g4 g9 p9 := by
  have Gx1 := G1
  have Xx1 := X1
  have Yx1 := Y1
  obtain ⟨k1, j1, h1⟩ := G1
  obtain ⟨v11, v12, v13, v14, v15, v16, v17, v18, v19, v110, v111⟩ := flG_of h1
  obtain ⟨s11, s12⟩ := X1
  obtain ⟨s13, s14⟩ := Y1
  have Gx2 := G2
  have Xx2 := X2
  have Yx2 := Y2
  obtain ⟨k2, j2, h2⟩ := G2
  obtain ⟨v21, v22, v23, v24, v25, v26, v27, v28, v29, v210, v211⟩ := flG_of h2
  obtain ⟨s21, s22⟩ := X2
  obtain ⟨s23, s24⟩ := Y2
  have Gx3 := G3
  have Xx3 := X3
  have Yx3 := Y3
  obtain ⟨k3, j3, h3⟩ := G3
  obtain ⟨v31, v32, v33, v34, v35, v36, v37, v38, v39, v310, v311⟩ := flG_of h3
  obtain ⟨s31, s32⟩ := X3
  obtain ⟨s33, s34⟩ := Y3
  have Gx4 := G4
  have Xx4 := X4
  have Yx4 := Y4
  obtain ⟨k4, j4, h4⟩ := G4
  obtain ⟨v41, v42, v43, v44, v45, v46, v47, v48, v49, v410, v411⟩ := flG_of h4
  obtain ⟨s41, s42⟩ := X4
  obtain ⟨s43, s44⟩ := Y4
  have f12 := fl11
  have f13 := fl00
  have gl0 : FlatL cells0 := flatAll (by kernel_rfl)
  have gl1 : FlatL cells1 := flatAll (by kernel_rfl)
  have gl2 : FlatL cells2 := flatAll (by kernel_rfl)
  have gl4 : FlatL cells4 := flatAll (by kernel_rfl)
  have gl5 : FlatL cells5 := flatAll (by kernel_rfl)
  have gl6 : FlatL cells6 := flatAll (by kernel_rfl)
  have gl8 : FlatL cells8 := flatAll (by kernel_rfl)
  have gl9 : FlatL cells9 := flatAll (by kernel_rfl)
  have gl10 : FlatL cells10 := flatAll (by kernel_rfl)
  have S9x := S9
  obtain ⟨k9, h9⟩ := S9
  obtain ⟨v91, v92, v93, v94, v95, v96, v97, v98, v99, v910, v911⟩ := flG_of h9
  have G9 : isGx g9 p9 := ⟨k9, 0, h9⟩
  unfold TA4
  (repeat(apply And.intro;focus(and_intros<;>first|trivial|rfl)))
  intro y6_ e6
  rw [wr64 (by omega)] at e6
  have e6 := e6.symm
  refine ⟨⟨⟨⟨g1, p1, x1, y1⟩, ⟨g2, p2, x2, y2⟩, ⟨g3, p3, x3, y3⟩, ⟨g4, p4, x4, y4⟩⟩, i + 1, g9, p9⟩, ⟨monI (d := 4) (e := ⟨⟨⟨g1, p1, x1, y1⟩, ⟨g2, p2, x2, y2⟩, ⟨g3, p3, x3, y3⟩, ⟨g4, p4, x4, y4⟩⟩, i + 1⟩) ⟨by show 0 ≤ i + 1; omega, by show i + 1 ≤ (a.l : Int); omega⟩ ⟨⟨⟨k1, j1, h1⟩, smI s11 s12, smI s13 s14⟩, ⟨⟨k2, j2, h2⟩, smI s21 s22, smI s23 s24⟩, ⟨⟨k3, j3, h3⟩, smI s31 s32, smI s33 s34⟩, ⟨⟨k4, j4, h4⟩, smI s41 s42, smI s43 s44⟩⟩ (by show (x1 + y1) + (x2 + y2) + (x3 + y3) + (x4 + y4) = a.x + a.y; omega), S9x⟩, by show ((a.l : Int) - (i + 1)).toNat < ((a.l : Int) - i).toNat; omega, ?_⟩
  (and_intros<;>first|trivial|rfl)
end Go.Proofs.YtfkacmmcgncooaaGreatDoor
end

/- A table within another one goes as it would by itself: the law: the second loop at depth 2. -/
section
set_option maxRecDepth 100000
namespace Go.Proofs.YtfkacmmcgncooaaGreatDoor
open Go.Ev
variable [Frozen Tryz.prog]
set_option maxHeartbeats 16000000 in
theorem lb2 (a : InA) (hla : (a.m : Int) ≤ 9223372036854775807) (hacts : actsX a.u a.m) : LB2 a := by
  have f12 := fl11
  have f13 := fl00
  have gl0 : FlatL cells0 := flatAll (by kernel_rfl)
  have gl1 : FlatL cells1 := flatAll (by kernel_rfl)
  have gl2 : FlatL cells2 := flatAll (by kernel_rfl)
  have gl4 : FlatL cells4 := flatAll (by kernel_rfl)
  have gl5 : FlatL cells5 := flatAll (by kernel_rfl)
  have gl6 : FlatL cells6 := flatAll (by kernel_rfl)
  have gl8 : FlatL cells8 := flatAll (by kernel_rfl)
  have gl9 : FlatL cells9 := flatAll (by kernel_rfl)
  have gl10 : FlatL cells10 := flatAll (by kernel_rfl)
  have Z0 : smQ 0 := ⟨Int.le_refl _, by decide⟩
  unfold LB2
  intro e he
  obtain ⟨t, i⟩ := e
  obtain ⟨⟨i1, i2⟩, ok⟩ := he
  have i1 : 0 ≤ i := i1
  have i2 : i ≤ a.m := i2
  obtain ⟨⟨⟨k1, j1, h1⟩, ⟨s11, s12⟩, s13, s14⟩, ⟨⟨k2, j2, h2⟩, ⟨s21, s22⟩, s23, s24⟩⟩ := ok
  have h1 : isG t.a.g t.a.p k1 j1 := h1
  have s11 : 0 ≤ t.a.x := s11
  have s12 : t.a.x ≤ 1000000 := s12
  have s13 : 0 ≤ t.a.y := s13
  have s14 : t.a.y ≤ 1000000 := s14
  obtain ⟨v11, v12, v13, v14, v15, v16, v17, v18, v19, v110, v111⟩ := flG_of h1
  have G1 : isGx t.a.g t.a.p := ⟨k1, j1, h1⟩
  have X1 : smQ t.a.x := ⟨s11, s12⟩
  have Y1 : smQ t.a.y := ⟨s13, s14⟩
  have t1 := fl2t t.a.x t.a.y
  have h2 : isG t.b.g t.b.p k2 j2 := h2
  have s21 : 0 ≤ t.b.x := s21
  have s22 : t.b.x ≤ 1000000 := s22
  have s23 : 0 ≤ t.b.y := s23
  have s24 : t.b.y ≤ 1000000 := s24
  obtain ⟨v21, v22, v23, v24, v25, v26, v27, v28, v29, v210, v211⟩ := flG_of h2
  have G2 : isGx t.b.g t.b.p := ⟨k2, j2, h2⟩
  have X2 : smQ t.b.x := ⟨s21, s22⟩
  have Y2 : smQ t.b.y := ⟨s23, s24⟩
  have t2 := fl2t t.b.x t.b.y
  refine ⟨fun hlt => ?_, fun hlt => ?_⟩
  · have hlt : i < a.m := hlt
    obtain ⟨b1, o1, hv, w1, t_, z1, v1, va, vl, vc, ⟨q1, q2, q3, q4, q5⟩, ⟨r1, r2, r3⟩, htwo⟩ := hacts.2 i.toNat (by omega)
    refine ⟨⟨i1, hlt⟩, b1, o1, hv, fun p ep => ⟨w1, by rw [ep]; exact q1, t_, by rw [ep]; exact q2, z1, by rw [ep]; exact q3, v1, by rw [ep]; exact q4, va, vl, vc, by rw [ep]; exact q5, by decide, fun r er => ⟨fun hgt => ?_, fun hle => ?_⟩⟩⟩
    ·
      intro y6_ e6
      rw [wr64 (by omega)] at e6
      have e6 := e6.symm
      refine ⟨⟨⟨t.a, t.b, t.c, t.e⟩, i + 1⟩, ⟨⟨by show 0 ≤ i + 1; omega, by show i + 1 ≤ (a.m : Int); omega⟩, ⟨G1, X1, Y1⟩, ⟨G2, X2, Y2⟩⟩, by show ((a.m : Int) - (i + 1)).toNat < ((a.m : Int) - i).toNat; omega, ?_⟩
      (and_intros<;>first|trivial|rfl)
    have hw5 : w1 % 5 ≤ 2 := by
      rw [Int.tmod_eq_emod_of_nonneg r1.1] at er
      omega
    (repeat(apply And.intro;focus(and_intros<;>first|trivial|rfl)))
    refine ⟨⟨trivial, ⟨G2, ⟨⟨X2, Y2⟩, ⟨X1, Y1⟩⟩, ⟨r1, r2, r3⟩, htwo⟩, hw5⟩, by (and_intros<;>first|trivial|rfl), fun m hm => ?_, fun er her => ?_, trivial⟩
    · obtain ⟨km, jm, xm, i91, i92, i93⟩ := id hm
      obtain ⟨v91, v92, v93, v94, v95, v96, v97, v98, v99, v910, v911⟩ := flG_of i93
      (repeat(apply And.intro;focus(and_intros<;>first|trivial|rfl)))
      refine ⟨⟨trivial, ⟨⟨G2, ⟨⟨X2, Y2⟩, ⟨Z0, Z0⟩⟩, ⟨r1, r2, r3⟩, htwo⟩, hw5⟩, km, jm, xm, i91, i92⟩, by (and_intros<;>first|trivial|rfl), fun m2 hm2 => ?_, trivial⟩
      have em := mvU hm hm2
      obtain ⟨p2⟩ := m2
      have em : p2 = m.p := em
      subst em
      have E2 : ∃ k j : Nat, isG t.b.g m.p k j := ⟨km, xm, i93⟩
      (repeat(apply And.intro;focus(and_intros<;>first|trivial|rfl)))
      refine ⟨fun u1 hu1 => ?_, trivial⟩
      (repeat(apply And.intro;focus(and_intros<;>first|trivial|rfl)))
      refine ⟨fun u2 hu2 => ?_, trivial⟩
      have eu := tnU hu1 hu2
      (repeat(apply And.intro;focus(and_intros<;>first|trivial|rfl)))
      refine ⟨fun h => absurd eu h, fun _ => ?_⟩
      (repeat(apply And.intro;focus(and_intros<;>first|trivial|rfl)))
      refine ⟨⟨trivial, km, xm, i93.1, i93.2.2⟩, by (and_intros<;>first|trivial|rfl), fun _ _ => ?_, trivial⟩
      (repeat(apply And.intro;focus(and_intros<;>first|trivial|rfl)))
      refine ⟨⟨trivial, ⟨Nat.le_refl _, Nat.le_refl _, t2⟩, t.b.x, t.b.y, rfl⟩, by (and_intros<;>first|trivial|rfl), fun c1 hc1 => ?_, trivial⟩
      obtain ⟨c11, c12⟩ := lw2 hc1
      (repeat(apply And.intro;focus(and_intros<;>first|trivial|rfl)))
      refine ⟨⟨trivial, km, xm, i93.1, i93.2.2⟩, by (and_intros<;>first|trivial|rfl), fun _ _ => ?_, trivial⟩
      (repeat(apply And.intro;focus(and_intros<;>first|trivial|rfl)))
      refine ⟨⟨trivial, ⟨Nat.le_refl _, Nat.le_refl _, t2⟩, t.b.x, t.b.y, rfl⟩, by (and_intros<;>first|trivial|rfl), fun c2 hc2 => ?_, trivial⟩
      obtain ⟨c21, c22⟩ := lw2 hc2
      (repeat(apply And.intro;focus(and_intros<;>first|trivial|rfl)))
      refine ⟨⟨trivial, km, xm, i93.1, i93.2.2⟩, by (and_intros<;>first|trivial|rfl), fun _ _ => ?_, trivial⟩
      (repeat(apply And.intro;focus(and_intros<;>first|trivial|rfl)))
      refine ⟨fun h => absurd (by (and_intros<;>first|trivial|rfl)) h, fun _ => ?_⟩
      intro y6_ e6
      rw [wr64 (by omega)] at e6
      have e6 := e6.symm
      refine ⟨⟨⟨t.a, ⟨t.b.g, m.p, t.b.x, t.b.y⟩, t.c, t.e⟩, i + 1⟩, ⟨⟨by show 0 ≤ i + 1; omega, by show i + 1 ≤ (a.m : Int); omega⟩, ⟨G1, X1, Y1⟩, ⟨⟨km, xm, i93⟩, X2, Y2⟩⟩, by show ((a.m : Int) - (i + 1)).toNat < ((a.m : Int) - i).toNat; omega, ?_⟩
      (and_intros<;>first|trivial|rfl)
    · (repeat(apply And.intro;focus(and_intros<;>first|trivial|rfl)))
      refine ⟨⟨trivial, ⟨⟨G2, ⟨⟨X2, Y2⟩, ⟨Z0, Z0⟩⟩, ⟨r1, r2, r3⟩, htwo⟩, hw5⟩, erF hw5 her⟩, by (and_intros<;>first|trivial|rfl), fun er2 her2 => ?_, trivial⟩
      have ee := erU hw5 her her2
      (repeat(apply And.intro;focus(and_intros<;>first|trivial|rfl)))
      refine ⟨fun h => absurd ee h, fun _ => ?_⟩
      have E2 : ∃ k j : Nat, isG t.b.g t.b.p k j := ⟨k2, j2, h2⟩
      (repeat(apply And.intro;focus(and_intros<;>first|trivial|rfl)))
      refine ⟨fun u1 hu1 => ?_, trivial⟩
      (repeat(apply And.intro;focus(and_intros<;>first|trivial|rfl)))
      refine ⟨fun u2 hu2 => ?_, trivial⟩
      have eu := tnU hu1 hu2
      (repeat(apply And.intro;focus(and_intros<;>first|trivial|rfl)))
      refine ⟨fun h => absurd eu h, fun _ => ?_⟩
      (repeat(apply And.intro;focus(and_intros<;>first|trivial|rfl)))
      refine ⟨⟨trivial, k2, j2, h2.1, h2.2.2⟩, by (and_intros<;>first|trivial|rfl), fun _ _ => ?_, trivial⟩
      (repeat(apply And.intro;focus(and_intros<;>first|trivial|rfl)))
      refine ⟨⟨trivial, ⟨Nat.le_refl _, Nat.le_refl _, t2⟩, t.b.x, t.b.y, rfl⟩, by (and_intros<;>first|trivial|rfl), fun c1 hc1 => ?_, trivial⟩
      obtain ⟨c11, c12⟩ := lw2 hc1
      (repeat(apply And.intro;focus(and_intros<;>first|trivial|rfl)))
      refine ⟨⟨trivial, k2, j2, h2.1, h2.2.2⟩, by (and_intros<;>first|trivial|rfl), fun _ _ => ?_, trivial⟩
      (repeat(apply And.intro;focus(and_intros<;>first|trivial|rfl)))
      refine ⟨⟨trivial, ⟨Nat.le_refl _, Nat.le_refl _, t2⟩, t.b.x, t.b.y, rfl⟩, by (and_intros<;>first|trivial|rfl), fun c2 hc2 => ?_, trivial⟩
      obtain ⟨c21, c22⟩ := lw2 hc2
      (repeat(apply And.intro;focus(and_intros<;>first|trivial|rfl)))
      refine ⟨⟨trivial, k2, j2, h2.1, h2.2.2⟩, by (and_intros<;>first|trivial|rfl), fun _ _ => ?_, trivial⟩
      (repeat(apply And.intro;focus(and_intros<;>first|trivial|rfl)))
      refine ⟨fun h => absurd (by (and_intros<;>first|trivial|rfl)) h, fun _ => ?_⟩
      intro y6_ e6
      rw [wr64 (by omega)] at e6
      have e6 := e6.symm
      refine ⟨⟨⟨t.a, t.b, t.c, t.e⟩, i + 1⟩, ⟨⟨by show 0 ≤ i + 1; omega, by show i + 1 ≤ (a.m : Int); omega⟩, ⟨G1, X1, Y1⟩, ⟨G2, X2, Y2⟩⟩, by show ((a.m : Int) - (i + 1)).toNat < ((a.m : Int) - i).toNat; omega, ?_⟩
      (and_intros<;>first|trivial|rfl)
  · skip
    (repeat(apply And.intro;focus(and_intros<;>first|trivial|rfl)))
    refine ⟨⟨trivial, k1, j1, h1.1, h1.2.2⟩, by (and_intros<;>first|trivial|rfl), fun _ _ => ?_, trivial⟩
    (repeat(apply And.intro;focus(and_intros<;>first|trivial|rfl)))
    refine ⟨⟨trivial, ⟨Nat.le_refl _, Nat.le_refl _, t1⟩, t.a.x, t.a.y, rfl⟩, by (and_intros<;>first|trivial|rfl), fun c1 hc1 => ?_, trivial⟩
    obtain ⟨c11, c12⟩ := lw2 hc1
    (repeat(apply And.intro;focus(and_intros<;>first|trivial|rfl)))
    refine ⟨⟨trivial, k1, j1, h1.1, h1.2.2⟩, by (and_intros<;>first|trivial|rfl), fun _ _ => ?_, trivial⟩
    (repeat(apply And.intro;focus(and_intros<;>first|trivial|rfl)))
    refine ⟨⟨trivial, c11.symm, c12.symm⟩, by (and_intros<;>first|trivial|rfl), fun _ _ => ?_, trivial⟩
    (repeat(apply And.intro;focus(and_intros<;>first|trivial|rfl)))
    refine ⟨fun _ => ?_, fun h => absurd (by (and_intros<;>first|trivial|rfl)) h⟩
    (repeat(apply And.intro;focus(and_intros<;>first|trivial|rfl)))
    refine ⟨(), ?_⟩
    (and_intros<;>first|trivial|rfl)
end Go.Proofs.YtfkacmmcgncooaaGreatDoor
end

/- A table within another one goes as it would by itself: the law: the second loop at depth 3. -/
section
set_option maxRecDepth 100000
namespace Go.Proofs.YtfkacmmcgncooaaGreatDoor
open Go.Ev
variable [Frozen Tryz.prog]
set_option maxHeartbeats 16000000 in
theorem lb3 (a : InA) (hla : (a.m : Int) ≤ 9223372036854775807) (hacts : actsX a.u a.m) : LB3 a := by
  have f12 := fl11
  have f13 := fl00
  have gl0 : FlatL cells0 := flatAll (by kernel_rfl)
  have gl1 : FlatL cells1 := flatAll (by kernel_rfl)
  have gl2 : FlatL cells2 := flatAll (by kernel_rfl)
  have gl4 : FlatL cells4 := flatAll (by kernel_rfl)
  have gl5 : FlatL cells5 := flatAll (by kernel_rfl)
  have gl6 : FlatL cells6 := flatAll (by kernel_rfl)
  have gl8 : FlatL cells8 := flatAll (by kernel_rfl)
  have gl9 : FlatL cells9 := flatAll (by kernel_rfl)
  have gl10 : FlatL cells10 := flatAll (by kernel_rfl)
  have Z0 : smQ 0 := ⟨Int.le_refl _, by decide⟩
  unfold LB3
  intro e he
  obtain ⟨t, i⟩ := e
  obtain ⟨⟨i1, i2⟩, ok⟩ := he
  have i1 : 0 ≤ i := i1
  have i2 : i ≤ a.m := i2
  obtain ⟨⟨⟨k1, j1, h1⟩, ⟨s11, s12⟩, s13, s14⟩, ⟨⟨k2, j2, h2⟩, ⟨s21, s22⟩, s23, s24⟩, ⟨⟨k3, j3, h3⟩, ⟨s31, s32⟩, s33, s34⟩⟩ := ok
  have h1 : isG t.a.g t.a.p k1 j1 := h1
  have s11 : 0 ≤ t.a.x := s11
  have s12 : t.a.x ≤ 1000000 := s12
  have s13 : 0 ≤ t.a.y := s13
  have s14 : t.a.y ≤ 1000000 := s14
  obtain ⟨v11, v12, v13, v14, v15, v16, v17, v18, v19, v110, v111⟩ := flG_of h1
  have G1 : isGx t.a.g t.a.p := ⟨k1, j1, h1⟩
  have X1 : smQ t.a.x := ⟨s11, s12⟩
  have Y1 : smQ t.a.y := ⟨s13, s14⟩
  have t1 := fl2t t.a.x t.a.y
  have h2 : isG t.b.g t.b.p k2 j2 := h2
  have s21 : 0 ≤ t.b.x := s21
  have s22 : t.b.x ≤ 1000000 := s22
  have s23 : 0 ≤ t.b.y := s23
  have s24 : t.b.y ≤ 1000000 := s24
  obtain ⟨v21, v22, v23, v24, v25, v26, v27, v28, v29, v210, v211⟩ := flG_of h2
  have G2 : isGx t.b.g t.b.p := ⟨k2, j2, h2⟩
  have X2 : smQ t.b.x := ⟨s21, s22⟩
  have Y2 : smQ t.b.y := ⟨s23, s24⟩
  have t2 := fl2t t.b.x t.b.y
  have h3 : isG t.c.g t.c.p k3 j3 := h3
  have s31 : 0 ≤ t.c.x := s31
  have s32 : t.c.x ≤ 1000000 := s32
  have s33 : 0 ≤ t.c.y := s33
  have s34 : t.c.y ≤ 1000000 := s34
  obtain ⟨v31, v32, v33, v34, v35, v36, v37, v38, v39, v310, v311⟩ := flG_of h3
  have G3 : isGx t.c.g t.c.p := ⟨k3, j3, h3⟩
  have X3 : smQ t.c.x := ⟨s31, s32⟩
  have Y3 : smQ t.c.y := ⟨s33, s34⟩
  have t3 := fl2t t.c.x t.c.y
  refine ⟨fun hlt => ?_, fun hlt => ?_⟩
  · have hlt : i < a.m := hlt
    obtain ⟨b1, o1, hv, w1, t_, z1, v1, va, vl, vc, ⟨q1, q2, q3, q4, q5⟩, ⟨r1, r2, r3⟩, htwo⟩ := hacts.2 i.toNat (by omega)
    refine ⟨⟨i1, hlt⟩, b1, o1, hv, fun p ep => ⟨w1, by rw [ep]; exact q1, t_, by rw [ep]; exact q2, z1, by rw [ep]; exact q3, v1, by rw [ep]; exact q4, va, vl, vc, by rw [ep]; exact q5, by decide, fun r er => ⟨fun hgt => ?_, fun hle => ?_⟩⟩⟩
    ·
      intro y6_ e6
      rw [wr64 (by omega)] at e6
      have e6 := e6.symm
      refine ⟨⟨⟨t.a, t.b, t.c, t.e⟩, i + 1⟩, ⟨⟨by show 0 ≤ i + 1; omega, by show i + 1 ≤ (a.m : Int); omega⟩, ⟨G1, X1, Y1⟩, ⟨G2, X2, Y2⟩, ⟨G3, X3, Y3⟩⟩, by show ((a.m : Int) - (i + 1)).toNat < ((a.m : Int) - i).toNat; omega, ?_⟩
      (and_intros<;>first|trivial|rfl)
    have hw5 : w1 % 5 ≤ 2 := by
      rw [Int.tmod_eq_emod_of_nonneg r1.1] at er
      omega
    (repeat(apply And.intro;focus(and_intros<;>first|trivial|rfl)))
    refine ⟨⟨trivial, ⟨G3, ⟨⟨X3, Y3⟩, ⟨X2, Y2⟩⟩, ⟨r1, r2, r3⟩, htwo⟩, hw5⟩, by (and_intros<;>first|trivial|rfl), fun m hm => ?_, fun er her => ?_, trivial⟩
    · obtain ⟨km, jm, xm, i91, i92, i93⟩ := id hm
      obtain ⟨v91, v92, v93, v94, v95, v96, v97, v98, v99, v910, v911⟩ := flG_of i93
      (repeat(apply And.intro;focus(and_intros<;>first|trivial|rfl)))
      refine ⟨⟨trivial, ⟨⟨G3, ⟨⟨X3, Y3⟩, ⟨Z0, Z0⟩⟩, ⟨r1, r2, r3⟩, htwo⟩, hw5⟩, km, jm, xm, i91, i92⟩, by (and_intros<;>first|trivial|rfl), fun m2 hm2 => ?_, trivial⟩
      have em := mvU hm hm2
      obtain ⟨p2⟩ := m2
      have em : p2 = m.p := em
      subst em
      have E2 : ∃ k j : Nat, isG t.c.g m.p k j := ⟨km, xm, i93⟩
      (repeat(apply And.intro;focus(and_intros<;>first|trivial|rfl)))
      refine ⟨fun u1 hu1 => ?_, trivial⟩
      (repeat(apply And.intro;focus(and_intros<;>first|trivial|rfl)))
      refine ⟨fun u2 hu2 => ?_, trivial⟩
      have eu := tnU hu1 hu2
      (repeat(apply And.intro;focus(and_intros<;>first|trivial|rfl)))
      refine ⟨fun h => absurd eu h, fun _ => ?_⟩
      (repeat(apply And.intro;focus(and_intros<;>first|trivial|rfl)))
      refine ⟨⟨trivial, km, xm, i93.1, i93.2.2⟩, by (and_intros<;>first|trivial|rfl), fun _ _ => ?_, trivial⟩
      (repeat(apply And.intro;focus(and_intros<;>first|trivial|rfl)))
      refine ⟨⟨trivial, ⟨Nat.le_refl _, Nat.le_refl _, t3⟩, t.c.x, t.c.y, rfl⟩, by (and_intros<;>first|trivial|rfl), fun c1 hc1 => ?_, trivial⟩
      obtain ⟨c11, c12⟩ := lw2 hc1
      (repeat(apply And.intro;focus(and_intros<;>first|trivial|rfl)))
      refine ⟨⟨trivial, km, xm, i93.1, i93.2.2⟩, by (and_intros<;>first|trivial|rfl), fun _ _ => ?_, trivial⟩
      (repeat(apply And.intro;focus(and_intros<;>first|trivial|rfl)))
      refine ⟨⟨trivial, ⟨Nat.le_refl _, Nat.le_refl _, t3⟩, t.c.x, t.c.y, rfl⟩, by (and_intros<;>first|trivial|rfl), fun c2 hc2 => ?_, trivial⟩
      obtain ⟨c21, c22⟩ := lw2 hc2
      (repeat(apply And.intro;focus(and_intros<;>first|trivial|rfl)))
      refine ⟨⟨trivial, km, xm, i93.1, i93.2.2⟩, by (and_intros<;>first|trivial|rfl), fun _ _ => ?_, trivial⟩
      (repeat(apply And.intro;focus(and_intros<;>first|trivial|rfl)))
      refine ⟨fun h => absurd (by (and_intros<;>first|trivial|rfl)) h, fun _ => ?_⟩
      intro y6_ e6
      rw [wr64 (by omega)] at e6
      have e6 := e6.symm
      refine ⟨⟨⟨t.a, t.b, ⟨t.c.g, m.p, t.c.x, t.c.y⟩, t.e⟩, i + 1⟩, ⟨⟨by show 0 ≤ i + 1; omega, by show i + 1 ≤ (a.m : Int); omega⟩, ⟨G1, X1, Y1⟩, ⟨G2, X2, Y2⟩, ⟨⟨km, xm, i93⟩, X3, Y3⟩⟩, by show ((a.m : Int) - (i + 1)).toNat < ((a.m : Int) - i).toNat; omega, ?_⟩
      (and_intros<;>first|trivial|rfl)
    · (repeat(apply And.intro;focus(and_intros<;>first|trivial|rfl)))
      refine ⟨⟨trivial, ⟨⟨G3, ⟨⟨X3, Y3⟩, ⟨Z0, Z0⟩⟩, ⟨r1, r2, r3⟩, htwo⟩, hw5⟩, erF hw5 her⟩, by (and_intros<;>first|trivial|rfl), fun er2 her2 => ?_, trivial⟩
      have ee := erU hw5 her her2
      (repeat(apply And.intro;focus(and_intros<;>first|trivial|rfl)))
      refine ⟨fun h => absurd ee h, fun _ => ?_⟩
      have E2 : ∃ k j : Nat, isG t.c.g t.c.p k j := ⟨k3, j3, h3⟩
      (repeat(apply And.intro;focus(and_intros<;>first|trivial|rfl)))
      refine ⟨fun u1 hu1 => ?_, trivial⟩
      (repeat(apply And.intro;focus(and_intros<;>first|trivial|rfl)))
      refine ⟨fun u2 hu2 => ?_, trivial⟩
      have eu := tnU hu1 hu2
      (repeat(apply And.intro;focus(and_intros<;>first|trivial|rfl)))
      refine ⟨fun h => absurd eu h, fun _ => ?_⟩
      (repeat(apply And.intro;focus(and_intros<;>first|trivial|rfl)))
      refine ⟨⟨trivial, k3, j3, h3.1, h3.2.2⟩, by (and_intros<;>first|trivial|rfl), fun _ _ => ?_, trivial⟩
      (repeat(apply And.intro;focus(and_intros<;>first|trivial|rfl)))
      refine ⟨⟨trivial, ⟨Nat.le_refl _, Nat.le_refl _, t3⟩, t.c.x, t.c.y, rfl⟩, by (and_intros<;>first|trivial|rfl), fun c1 hc1 => ?_, trivial⟩
      obtain ⟨c11, c12⟩ := lw2 hc1
      (repeat(apply And.intro;focus(and_intros<;>first|trivial|rfl)))
      refine ⟨⟨trivial, k3, j3, h3.1, h3.2.2⟩, by (and_intros<;>first|trivial|rfl), fun _ _ => ?_, trivial⟩
      (repeat(apply And.intro;focus(and_intros<;>first|trivial|rfl)))
      refine ⟨⟨trivial, ⟨Nat.le_refl _, Nat.le_refl _, t3⟩, t.c.x, t.c.y, rfl⟩, by (and_intros<;>first|trivial|rfl), fun c2 hc2 => ?_, trivial⟩
      obtain ⟨c21, c22⟩ := lw2 hc2
      (repeat(apply And.intro;focus(and_intros<;>first|trivial|rfl)))
      refine ⟨⟨trivial, k3, j3, h3.1, h3.2.2⟩, by (and_intros<;>first|trivial|rfl), fun _ _ => ?_, trivial⟩
      (repeat(apply And.intro;focus(and_intros<;>first|trivial|rfl)))
      refine ⟨fun h => absurd (by (and_intros<;>first|trivial|rfl)) h, fun _ => ?_⟩
      intro y6_ e6
      rw [wr64 (by omega)] at e6
      have e6 := e6.symm
      refine ⟨⟨⟨t.a, t.b, t.c, t.e⟩, i + 1⟩, ⟨⟨by show 0 ≤ i + 1; omega, by show i + 1 ≤ (a.m : Int); omega⟩, ⟨G1, X1, Y1⟩, ⟨G2, X2, Y2⟩, ⟨G3, X3, Y3⟩⟩, by show ((a.m : Int) - (i + 1)).toNat < ((a.m : Int) - i).toNat; omega, ?_⟩
      (and_intros<;>first|trivial|rfl)
  · skip
    (repeat(apply And.intro;focus(and_intros<;>first|trivial|rfl)))
    refine ⟨⟨trivial, k2, j2, h2.1, h2.2.2⟩, by (and_intros<;>first|trivial|rfl), fun _ _ => ?_, trivial⟩
    (repeat(apply And.intro;focus(and_intros<;>first|trivial|rfl)))
    refine ⟨⟨trivial, ⟨Nat.le_refl _, Nat.le_refl _, t2⟩, t.b.x, t.b.y, rfl⟩, by (and_intros<;>first|trivial|rfl), fun c1 hc1 => ?_, trivial⟩
    obtain ⟨c11, c12⟩ := lw2 hc1
    (repeat(apply And.intro;focus(and_intros<;>first|trivial|rfl)))
    refine ⟨⟨trivial, k2, j2, h2.1, h2.2.2⟩, by (and_intros<;>first|trivial|rfl), fun _ _ => ?_, trivial⟩
    (repeat(apply And.intro;focus(and_intros<;>first|trivial|rfl)))
    refine ⟨⟨trivial, c11.symm, c12.symm⟩, by (and_intros<;>first|trivial|rfl), fun _ _ => ?_, trivial⟩
    (repeat(apply And.intro;focus(and_intros<;>first|trivial|rfl)))
    refine ⟨fun _ => ?_, fun h => absurd (by (and_intros<;>first|trivial|rfl)) h⟩
    (repeat(apply And.intro;focus(and_intros<;>first|trivial|rfl)))
    refine ⟨(), ?_⟩
    (and_intros<;>first|trivial|rfl)
end Go.Proofs.YtfkacmmcgncooaaGreatDoor
end

/- A table within another one goes as it would by itself: the law: the second loop at depth 4. -/
section
set_option maxRecDepth 100000
namespace Go.Proofs.YtfkacmmcgncooaaGreatDoor
open Go.Ev
variable [Frozen Tryz.prog]
set_option maxHeartbeats 16000000 in
theorem lb4 (a : InA) (hla : (a.m : Int) ≤ 9223372036854775807) (hacts : actsX a.u a.m) : LB4 a := by
  have f12 := fl11
  have f13 := fl00
  have gl0 : FlatL cells0 := flatAll (by kernel_rfl)
  have gl1 : FlatL cells1 := flatAll (by kernel_rfl)
  have gl2 : FlatL cells2 := flatAll (by kernel_rfl)
  have gl4 : FlatL cells4 := flatAll (by kernel_rfl)
  have gl5 : FlatL cells5 := flatAll (by kernel_rfl)
  have gl6 : FlatL cells6 := flatAll (by kernel_rfl)
  have gl8 : FlatL cells8 := flatAll (by kernel_rfl)
  have gl9 : FlatL cells9 := flatAll (by kernel_rfl)
  have gl10 : FlatL cells10 := flatAll (by kernel_rfl)
  have Z0 : smQ 0 := ⟨Int.le_refl _, by decide⟩
  unfold LB4
  intro e he
  obtain ⟨t, i⟩ := e
  obtain ⟨⟨i1, i2⟩, ok⟩ := he
  have i1 : 0 ≤ i := i1
  have i2 : i ≤ a.m := i2
  obtain ⟨⟨⟨k1, j1, h1⟩, ⟨s11, s12⟩, s13, s14⟩, ⟨⟨k2, j2, h2⟩, ⟨s21, s22⟩, s23, s24⟩, ⟨⟨k3, j3, h3⟩, ⟨s31, s32⟩, s33, s34⟩, ⟨⟨k4, j4, h4⟩, ⟨s41, s42⟩, s43, s44⟩⟩ := ok
  have h1 : isG t.a.g t.a.p k1 j1 := h1
  have s11 : 0 ≤ t.a.x := s11
  have s12 : t.a.x ≤ 1000000 := s12
  have s13 : 0 ≤ t.a.y := s13
  have s14 : t.a.y ≤ 1000000 := s14
  obtain ⟨v11, v12, v13, v14, v15, v16, v17, v18, v19, v110, v111⟩ := flG_of h1
  have G1 : isGx t.a.g t.a.p := ⟨k1, j1, h1⟩
  have X1 : smQ t.a.x := ⟨s11, s12⟩
  have Y1 : smQ t.a.y := ⟨s13, s14⟩
  have t1 := fl2t t.a.x t.a.y
  have h2 : isG t.b.g t.b.p k2 j2 := h2
  have s21 : 0 ≤ t.b.x := s21
  have s22 : t.b.x ≤ 1000000 := s22
  have s23 : 0 ≤ t.b.y := s23
  have s24 : t.b.y ≤ 1000000 := s24
  obtain ⟨v21, v22, v23, v24, v25, v26, v27, v28, v29, v210, v211⟩ := flG_of h2
  have G2 : isGx t.b.g t.b.p := ⟨k2, j2, h2⟩
  have X2 : smQ t.b.x := ⟨s21, s22⟩
  have Y2 : smQ t.b.y := ⟨s23, s24⟩
  have t2 := fl2t t.b.x t.b.y
  have h3 : isG t.c.g t.c.p k3 j3 := h3
  have s31 : 0 ≤ t.c.x := s31
  have s32 : t.c.x ≤ 1000000 := s32
  have s33 : 0 ≤ t.c.y := s33
  have s34 : t.c.y ≤ 1000000 := s34
  obtain ⟨v31, v32, v33, v34, v35, v36, v37, v38, v39, v310, v311⟩ := flG_of h3
  have G3 : isGx t.c.g t.c.p := ⟨k3, j3, h3⟩
  have X3 : smQ t.c.x := ⟨s31, s32⟩
  have Y3 : smQ t.c.y := ⟨s33, s34⟩
  have t3 := fl2t t.c.x t.c.y
  have h4 : isG t.e.g t.e.p k4 j4 := h4
  have s41 : 0 ≤ t.e.x := s41
  have s42 : t.e.x ≤ 1000000 := s42
  have s43 : 0 ≤ t.e.y := s43
  have s44 : t.e.y ≤ 1000000 := s44
  obtain ⟨v41, v42, v43, v44, v45, v46, v47, v48, v49, v410, v411⟩ := flG_of h4
  have G4 : isGx t.e.g t.e.p := ⟨k4, j4, h4⟩
  have X4 : smQ t.e.x := ⟨s41, s42⟩
  have Y4 : smQ t.e.y := ⟨s43, s44⟩
  have t4 := fl2t t.e.x t.e.y
  refine ⟨fun hlt => ?_, fun hlt => ?_⟩
  · have hlt : i < a.m := hlt
    obtain ⟨b1, o1, hv, w1, t_, z1, v1, va, vl, vc, ⟨q1, q2, q3, q4, q5⟩, ⟨r1, r2, r3⟩, htwo⟩ := hacts.2 i.toNat (by omega)
    refine ⟨⟨i1, hlt⟩, b1, o1, hv, fun p ep => ⟨w1, by rw [ep]; exact q1, t_, by rw [ep]; exact q2, z1, by rw [ep]; exact q3, v1, by rw [ep]; exact q4, va, vl, vc, by rw [ep]; exact q5, by decide, fun r er => ⟨fun hgt => ?_, fun hle => ?_⟩⟩⟩
    ·
      intro y6_ e6
      rw [wr64 (by omega)] at e6
      have e6 := e6.symm
      refine ⟨⟨⟨t.a, t.b, t.c, t.e⟩, i + 1⟩, ⟨⟨by show 0 ≤ i + 1; omega, by show i + 1 ≤ (a.m : Int); omega⟩, ⟨G1, X1, Y1⟩, ⟨G2, X2, Y2⟩, ⟨G3, X3, Y3⟩, ⟨G4, X4, Y4⟩⟩, by show ((a.m : Int) - (i + 1)).toNat < ((a.m : Int) - i).toNat; omega, ?_⟩
      (and_intros<;>first|trivial|rfl)
    have hw5 : w1 % 5 ≤ 2 := by
      rw [Int.tmod_eq_emod_of_nonneg r1.1] at er
      omega
    (repeat(apply And.intro;focus(and_intros<;>first|trivial|rfl)))
    refine ⟨⟨trivial, ⟨G4, ⟨⟨X4, Y4⟩, ⟨X3, Y3⟩⟩, ⟨r1, r2, r3⟩, htwo⟩, hw5⟩, by (and_intros<;>first|trivial|rfl), fun m hm => ?_, fun er her => ?_, trivial⟩
    · obtain ⟨km, jm, xm, i91, i92, i93⟩ := id hm
      obtain ⟨v91, v92, v93, v94, v95, v96, v97, v98, v99, v910, v911⟩ := flG_of i93
      (repeat(apply And.intro;focus(and_intros<;>first|trivial|rfl)))
      refine ⟨⟨trivial, ⟨⟨G4, ⟨⟨X4, Y4⟩, ⟨Z0, Z0⟩⟩, ⟨r1, r2, r3⟩, htwo⟩, hw5⟩, km, jm, xm, i91, i92⟩, by (and_intros<;>first|trivial|rfl), fun m2 hm2 => ?_, trivial⟩
      have em := mvU hm hm2
      obtain ⟨p2⟩ := m2
      have em : p2 = m.p := em
      subst em
      have E2 : ∃ k j : Nat, isG t.e.g m.p k j := ⟨km, xm, i93⟩
      (repeat(apply And.intro;focus(and_intros<;>first|trivial|rfl)))
      refine ⟨fun u1 hu1 => ?_, trivial⟩
      (repeat(apply And.intro;focus(and_intros<;>first|trivial|rfl)))
      refine ⟨fun u2 hu2 => ?_, trivial⟩
      have eu := tnU hu1 hu2
      (repeat(apply And.intro;focus(and_intros<;>first|trivial|rfl)))
      refine ⟨fun h => absurd eu h, fun _ => ?_⟩
      (repeat(apply And.intro;focus(and_intros<;>first|trivial|rfl)))
      refine ⟨⟨trivial, km, xm, i93.1, i93.2.2⟩, by (and_intros<;>first|trivial|rfl), fun _ _ => ?_, trivial⟩
      (repeat(apply And.intro;focus(and_intros<;>first|trivial|rfl)))
      refine ⟨⟨trivial, ⟨Nat.le_refl _, Nat.le_refl _, t4⟩, t.e.x, t.e.y, rfl⟩, by (and_intros<;>first|trivial|rfl), fun c1 hc1 => ?_, trivial⟩
      obtain ⟨c11, c12⟩ := lw2 hc1
      (repeat(apply And.intro;focus(and_intros<;>first|trivial|rfl)))
      refine ⟨⟨trivial, km, xm, i93.1, i93.2.2⟩, by (and_intros<;>first|trivial|rfl), fun _ _ => ?_, trivial⟩
      (repeat(apply And.intro;focus(and_intros<;>first|trivial|rfl)))
      refine ⟨⟨trivial, ⟨Nat.le_refl _, Nat.le_refl _, t4⟩, t.e.x, t.e.y, rfl⟩, by (and_intros<;>first|trivial|rfl), fun c2 hc2 => ?_, trivial⟩
      obtain ⟨c21, c22⟩ := lw2 hc2
      (repeat(apply And.intro;focus(and_intros<;>first|trivial|rfl)))
      refine ⟨⟨trivial, km, xm, i93.1, i93.2.2⟩, by (and_intros<;>first|trivial|rfl), fun _ _ => ?_, trivial⟩
      (repeat(apply And.intro;focus(and_intros<;>first|trivial|rfl)))
      refine ⟨fun h => absurd (by (and_intros<;>first|trivial|rfl)) h, fun _ => ?_⟩
      intro y6_ e6
      rw [wr64 (by omega)] at e6
      have e6 := e6.symm
      refine ⟨⟨⟨t.a, t.b, t.c, ⟨t.e.g, m.p, t.e.x, t.e.y⟩⟩, i + 1⟩, ⟨⟨by show 0 ≤ i + 1; omega, by show i + 1 ≤ (a.m : Int); omega⟩, ⟨G1, X1, Y1⟩, ⟨G2, X2, Y2⟩, ⟨G3, X3, Y3⟩, ⟨⟨km, xm, i93⟩, X4, Y4⟩⟩, by show ((a.m : Int) - (i + 1)).toNat < ((a.m : Int) - i).toNat; omega, ?_⟩
      (and_intros<;>first|trivial|rfl)
    · (repeat(apply And.intro;focus(and_intros<;>first|trivial|rfl)))
      refine ⟨⟨trivial, ⟨⟨G4, ⟨⟨X4, Y4⟩, ⟨Z0, Z0⟩⟩, ⟨r1, r2, r3⟩, htwo⟩, hw5⟩, erF hw5 her⟩, by (and_intros<;>first|trivial|rfl), fun er2 her2 => ?_, trivial⟩
      have ee := erU hw5 her her2
      (repeat(apply And.intro;focus(and_intros<;>first|trivial|rfl)))
      refine ⟨fun h => absurd ee h, fun _ => ?_⟩
      have E2 : ∃ k j : Nat, isG t.e.g t.e.p k j := ⟨k4, j4, h4⟩
      (repeat(apply And.intro;focus(and_intros<;>first|trivial|rfl)))
      refine ⟨fun u1 hu1 => ?_, trivial⟩
      (repeat(apply And.intro;focus(and_intros<;>first|trivial|rfl)))
      refine ⟨fun u2 hu2 => ?_, trivial⟩
      have eu := tnU hu1 hu2
      (repeat(apply And.intro;focus(and_intros<;>first|trivial|rfl)))
      refine ⟨fun h => absurd eu h, fun _ => ?_⟩
      (repeat(apply And.intro;focus(and_intros<;>first|trivial|rfl)))
      refine ⟨⟨trivial, k4, j4, h4.1, h4.2.2⟩, by (and_intros<;>first|trivial|rfl), fun _ _ => ?_, trivial⟩
      (repeat(apply And.intro;focus(and_intros<;>first|trivial|rfl)))
      refine ⟨⟨trivial, ⟨Nat.le_refl _, Nat.le_refl _, t4⟩, t.e.x, t.e.y, rfl⟩, by (and_intros<;>first|trivial|rfl), fun c1 hc1 => ?_, trivial⟩
      obtain ⟨c11, c12⟩ := lw2 hc1
      (repeat(apply And.intro;focus(and_intros<;>first|trivial|rfl)))
      refine ⟨⟨trivial, k4, j4, h4.1, h4.2.2⟩, by (and_intros<;>first|trivial|rfl), fun _ _ => ?_, trivial⟩
      (repeat(apply And.intro;focus(and_intros<;>first|trivial|rfl)))
      refine ⟨⟨trivial, ⟨Nat.le_refl _, Nat.le_refl _, t4⟩, t.e.x, t.e.y, rfl⟩, by (and_intros<;>first|trivial|rfl), fun c2 hc2 => ?_, trivial⟩
      obtain ⟨c21, c22⟩ := lw2 hc2
      (repeat(apply And.intro;focus(and_intros<;>first|trivial|rfl)))
      refine ⟨⟨trivial, k4, j4, h4.1, h4.2.2⟩, by (and_intros<;>first|trivial|rfl), fun _ _ => ?_, trivial⟩
      (repeat(apply And.intro;focus(and_intros<;>first|trivial|rfl)))
      refine ⟨fun h => absurd (by (and_intros<;>first|trivial|rfl)) h, fun _ => ?_⟩
      intro y6_ e6
      rw [wr64 (by omega)] at e6
      have e6 := e6.symm
      refine ⟨⟨⟨t.a, t.b, t.c, t.e⟩, i + 1⟩, ⟨⟨by show 0 ≤ i + 1; omega, by show i + 1 ≤ (a.m : Int); omega⟩, ⟨G1, X1, Y1⟩, ⟨G2, X2, Y2⟩, ⟨G3, X3, Y3⟩, ⟨G4, X4, Y4⟩⟩, by show ((a.m : Int) - (i + 1)).toNat < ((a.m : Int) - i).toNat; omega, ?_⟩
      (and_intros<;>first|trivial|rfl)
  · skip
    (repeat(apply And.intro;focus(and_intros<;>first|trivial|rfl)))
    refine ⟨⟨trivial, k3, j3, h3.1, h3.2.2⟩, by (and_intros<;>first|trivial|rfl), fun _ _ => ?_, trivial⟩
    (repeat(apply And.intro;focus(and_intros<;>first|trivial|rfl)))
    refine ⟨⟨trivial, ⟨Nat.le_refl _, Nat.le_refl _, t3⟩, t.c.x, t.c.y, rfl⟩, by (and_intros<;>first|trivial|rfl), fun c1 hc1 => ?_, trivial⟩
    obtain ⟨c11, c12⟩ := lw2 hc1
    (repeat(apply And.intro;focus(and_intros<;>first|trivial|rfl)))
    refine ⟨⟨trivial, k3, j3, h3.1, h3.2.2⟩, by (and_intros<;>first|trivial|rfl), fun _ _ => ?_, trivial⟩
    (repeat(apply And.intro;focus(and_intros<;>first|trivial|rfl)))
    refine ⟨⟨trivial, c11.symm, c12.symm⟩, by (and_intros<;>first|trivial|rfl), fun _ _ => ?_, trivial⟩
    (repeat(apply And.intro;focus(and_intros<;>first|trivial|rfl)))
    refine ⟨fun _ => ?_, fun h => absurd (by (and_intros<;>first|trivial|rfl)) h⟩
    (repeat(apply And.intro;focus(and_intros<;>first|trivial|rfl)))
    refine ⟨(), ?_⟩
    (and_intros<;>first|trivial|rfl)
end Go.Proofs.YtfkacmmcgncooaaGreatDoor
end
