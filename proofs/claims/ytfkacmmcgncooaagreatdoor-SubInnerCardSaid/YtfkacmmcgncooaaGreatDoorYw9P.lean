/- A table within another one goes as it would by itself: the law. -/
import Derived.Test.YtfkacmmcgncooaaGreatDoorYw9T
import Derived.Test.YtfkacmmcgncooaaGreatDoorYw9R
set_option maxRecDepth 100000
namespace Go.Proofs.YtfkacmmcgncooaaGreatDoor
open Go.Ev
variable [Frozen Tryz.prog]
set_option maxHeartbeats 8000000 in
theorem g_inner (a : InA) (hw : 0 ≤ a.w ∧ a.w < 256) (hn : 0 ≤ a.n ∧ a.n < 256) (hx : 0 ≤ a.x ∧ a.x < 65536) (hy : 0 ≤ a.y ∧ a.y < 65536) (hacts : actsX a.v a.l) (hacts2 : actsX a.u a.m) : GW (G_inner a) := by
  have f12 := fl11
  have f13 := fl00
  have hla : (a.l : Int) ≤ 9223372036854775807 := by have := hacts.1; omega
  have hla2 : (a.m : Int) ≤ 9223372036854775807 := by have := hacts2.1; omega
  have gl0 : FlatL cells0 := flatAll (by kernel_rfl)
  have gl1 : FlatL cells1 := flatAll (by kernel_rfl)
  have gl2 : FlatL cells2 := flatAll (by kernel_rfl)
  have gl4 : FlatL cells4 := flatAll (by kernel_rfl)
  have gl5 : FlatL cells5 := flatAll (by kernel_rfl)
  have gl6 : FlatL cells6 := flatAll (by kernel_rfl)
  have gl8 : FlatL cells8 := flatAll (by kernel_rfl)
  have gl9 : FlatL cells9 := flatAll (by kernel_rfl)
  have gl10 : FlatL cells10 := flatAll (by kernel_rfl)
  refine ⟨?_⟩
  rw [vc_inner]
  (repeat(apply And.intro;focus(and_intros<;>first|trivial|rfl)))
  refine ⟨fun _ _ => ?_, trivial⟩
  (repeat(apply And.intro;focus(and_intros<;>first|trivial|rfl)))
  refine ⟨⟨trivial, hacts⟩, by (and_intros<;>first|trivial|rfl), fun _ _ => ?_, fun _ hl => ?_, trivial⟩
  · (repeat(apply And.intro;focus(and_intros<;>first|trivial|rfl)))
    refine ⟨fun _ _ => ?_, trivial⟩
    (repeat(apply And.intro;focus(and_intros<;>first|trivial|rfl)))
    refine ⟨(), ?_⟩
    (and_intros<;>first|trivial|rfl)
  (repeat(apply And.intro;focus(and_intros<;>first|trivial|rfl)))
  refine ⟨⟨trivial, hacts2⟩, by (and_intros<;>first|trivial|rfl), fun _ _ => ?_, fun _ hl2 => ?_, trivial⟩
  · (repeat(apply And.intro;focus(and_intros<;>first|trivial|rfl)))
    refine ⟨fun _ _ => ?_, trivial⟩
    (repeat(apply And.intro;focus(and_intros<;>first|trivial|rfl)))
    refine ⟨(), ?_⟩
    (and_intros<;>first|trivial|rfl)
  (repeat(apply And.intro;focus(and_intros<;>first|trivial|rfl)))
  refine ⟨⟨trivial, hw, hx, hy⟩, by (and_intros<;>first|trivial|rfl), fun b hb => ?_, trivial⟩
  obtain ⟨k0, -, -, hi0⟩ := hb
  (repeat(apply And.intro;focus(and_intros<;>first|trivial|rfl)))
  refine ⟨⟨trivial, hn⟩, by (and_intros<;>first|trivial|rfl), fun c hc => ?_, trivial⟩
  obtain ⟨n0, -, -, hj0⟩ := hc
  (repeat(apply And.intro;focus(and_intros<;>first|trivial|rfl)))
  intro x13 e13
  refine ⟨⟨⟨⟨⟨b.g, b.p, a.x, a.y⟩, ⟨b.g, b.p, a.x, a.y⟩, ⟨b.g, b.p, a.x, a.y⟩, ⟨b.g, b.p, a.x, a.y⟩⟩, 0, c.g, c.p⟩, ⟨monI (d := 1) (e := ⟨⟨⟨b.g, b.p, a.x, a.y⟩, ⟨b.g, b.p, a.x, a.y⟩, ⟨b.g, b.p, a.x, a.y⟩, ⟨b.g, b.p, a.x, a.y⟩⟩, 0⟩) ⟨Int.le_refl _, by show (0 : Int) ≤ a.l; omega⟩ ⟨⟨k0, 0, hi0⟩, smI hx.1 (show a.x ≤ 1000000 by omega), smI hy.1 (show a.y ≤ 1000000 by omega)⟩ rfl, n0, hj0⟩, ?_⟩, fun e he => ?_, fun e he => ?_, fun e he => ?_, fun e he => ?_, trivial⟩
  · obtain ⟨g1, g2, g3, g4, g5, g6, g7, g8, g9, g10, g11⟩ := flG_of hi0
    obtain ⟨i1, i2, i3, i4, i5, i6, i7, i8, i9, i10, i11⟩ := flG_of hj0
    have e13 := e13.symm
    (and_intros<;>first|trivial|rfl)
  · obtain ⟨t, i, gg, pp⟩ := e
    obtain ⟨⟨⟨i1, i2⟩, ok, tot⟩, hst⟩ := he
    have i1 : 0 ≤ i := i1
    have i2 : i ≤ a.l := i2
    have hst : stQ gg pp := hst
    obtain ⟨n9, h9⟩ := id hst
    obtain ⟨v91, v92, v93, v94, v95, v96, v97, v98, v99, v910, v911⟩ := flG_of h9
    have tot : (t.a.x + t.a.y) = a.x + a.y := tot
    obtain ⟨⟨k1, j1, h1⟩, ⟨s11, s12⟩, s13, s14⟩ := ok
    have h1 : isG t.a.g t.a.p k1 j1 := h1
    have s11 : 0 ≤ t.a.x := s11
    have s12 : t.a.x ≤ 1000000 := s12
    have s13 : 0 ≤ t.a.y := s13
    have s14 : t.a.y ≤ 1000000 := s14
    obtain ⟨v11, v12, v13, v14, v15, v16, v17, v18, v19, v110, v111⟩ := flG_of h1
    refine ⟨fun hlt => ?_, fun hlt => ?_⟩
    rotate_left
    · exact rl1 _ _ _ _ _ _ _ _ _ _ _ _ i ⟨k1, j1, h1⟩ ⟨s11, s12⟩ ⟨s13, s14⟩ hst (lb2 a hla2 hacts2)
    have hlt : i < a.l := hlt
    obtain ⟨b1, o1, hv, w1, t1, z1, v1, va, vl, vc, ⟨q1, q2, q3, q4, q5⟩, ⟨r1, r2, r3⟩, htwo⟩ := hacts.2 i.toNat (by omega)
    refine ⟨⟨i1, hlt⟩, b1, o1, hv, fun p ep => ⟨w1, by rw [ep]; exact q1, t1, by rw [ep]; exact q2, z1, by rw [ep]; exact q3, v1, by rw [ep]; exact q4, va, vl, vc, by rw [ep]; exact q5, ?_⟩⟩
    (repeat(apply And.intro;focus(and_intros<;>first|trivial|rfl)))
    refine ⟨⟨trivial, ⟨k1, j1, h1⟩, ⟨⟨⟨s11, s12⟩, s13, s14⟩, ⟨smI (Int.le_refl _) (by decide), smI (Int.le_refl _) (by decide)⟩⟩, ⟨r1, r2, r3⟩, htwo⟩, by (and_intros<;>first|trivial|rfl), fun m hm => ?_, fun er her => ?_, fun g hg => ?_, trivial⟩
    · obtain ⟨k9, j9, m9, i91, -, i93⟩ := hm
      exact ta1 _ _ _ _ _ _ _ _ i1 hlt hla ⟨k9, m9, i93⟩ ⟨s11, s12⟩ ⟨s13, s14⟩ hst (by show (t.a.x + t.a.y) = a.x + a.y; omega)
    · skip
      exact ta1 _ _ _ _ _ _ _ _ i1 hlt hla ⟨k1, j1, h1⟩ ⟨s11, s12⟩ ⟨s13, s14⟩ hst (by show (t.a.x + t.a.y) = a.x + a.y; omega)
    · obtain ⟨⟨-, hgx, -, ⟨b91, b92⟩, b93, b94⟩, hu, hv2⟩ := hg
      have b91 : 0 ≤ g.b.x := b91
      have b93 : 0 ≤ g.b.y := b93
      have b92 : g.b.x ≤ t.a.x := b92
      have b94 : g.b.y ≤ t.a.y := b94
      have hu : g.u = t.a.x - g.b.x := hu
      have hv2 : g.v = t.a.y - g.b.y := hv2
      exact ta2 _ _ _ _ _ _ _ _ _ _ _ _ i1 hlt hla ⟨k1, j1, h1⟩ (smI (show 0 ≤ g.u by omega) (show g.u ≤ 1000000 by omega)) (smI (show 0 ≤ g.v by omega) (show g.v ≤ 1000000 by omega)) hgx (smI (show 0 ≤ g.b.x by omega) (show g.b.x ≤ 1000000 by omega)) (smI (show 0 ≤ g.b.y by omega) (show g.b.y ≤ 1000000 by omega)) hst (by show (g.u + g.v) + (g.b.x + g.b.y) = a.x + a.y; omega)
  · obtain ⟨t, i, gg, pp⟩ := e
    obtain ⟨⟨⟨i1, i2⟩, ok, tot⟩, hst⟩ := he
    have i1 : 0 ≤ i := i1
    have i2 : i ≤ a.l := i2
    have hst : stQ gg pp := hst
    obtain ⟨n9, h9⟩ := id hst
    obtain ⟨v91, v92, v93, v94, v95, v96, v97, v98, v99, v910, v911⟩ := flG_of h9
    have tot : (t.a.x + t.a.y) + (t.b.x + t.b.y) = a.x + a.y := tot
    obtain ⟨⟨⟨k1, j1, h1⟩, ⟨s11, s12⟩, s13, s14⟩, ⟨⟨k2, j2, h2⟩, ⟨s21, s22⟩, s23, s24⟩⟩ := ok
    have h1 : isG t.a.g t.a.p k1 j1 := h1
    have s11 : 0 ≤ t.a.x := s11
    have s12 : t.a.x ≤ 1000000 := s12
    have s13 : 0 ≤ t.a.y := s13
    have s14 : t.a.y ≤ 1000000 := s14
    obtain ⟨v11, v12, v13, v14, v15, v16, v17, v18, v19, v110, v111⟩ := flG_of h1
    have h2 : isG t.b.g t.b.p k2 j2 := h2
    have s21 : 0 ≤ t.b.x := s21
    have s22 : t.b.x ≤ 1000000 := s22
    have s23 : 0 ≤ t.b.y := s23
    have s24 : t.b.y ≤ 1000000 := s24
    obtain ⟨v21, v22, v23, v24, v25, v26, v27, v28, v29, v210, v211⟩ := flG_of h2
    refine ⟨fun hlt => ?_, fun hlt => ?_⟩
    rotate_left
    · exact rl2 _ _ _ _ _ _ _ _ _ _ _ _ _ _ _ _ i ⟨k1, j1, h1⟩ ⟨s11, s12⟩ ⟨s13, s14⟩ ⟨k2, j2, h2⟩ ⟨s21, s22⟩ ⟨s23, s24⟩ hst (lb3 a hla2 hacts2)
    have hlt : i < a.l := hlt
    obtain ⟨b1, o1, hv, w1, t1, z1, v1, va, vl, vc, ⟨q1, q2, q3, q4, q5⟩, ⟨r1, r2, r3⟩, htwo⟩ := hacts.2 i.toNat (by omega)
    refine ⟨⟨i1, hlt⟩, b1, o1, hv, fun p ep => ⟨w1, by rw [ep]; exact q1, t1, by rw [ep]; exact q2, z1, by rw [ep]; exact q3, v1, by rw [ep]; exact q4, va, vl, vc, by rw [ep]; exact q5, ?_⟩⟩
    (repeat(apply And.intro;focus(and_intros<;>first|trivial|rfl)))
    refine ⟨⟨trivial, ⟨k2, j2, h2⟩, ⟨⟨⟨s21, s22⟩, s23, s24⟩, ⟨⟨s11, s12⟩, s13, s14⟩⟩, ⟨r1, r2, r3⟩, htwo⟩, by (and_intros<;>first|trivial|rfl), fun m hm => ?_, fun er her => ?_, fun g hg => ?_, fun z hz => ?_, trivial⟩
    · obtain ⟨k9, j9, m9, i91, -, i93⟩ := hm
      exact ta2 _ _ _ _ _ _ _ _ _ _ _ _ i1 hlt hla ⟨k1, j1, h1⟩ ⟨s11, s12⟩ ⟨s13, s14⟩ ⟨k9, m9, i93⟩ ⟨s21, s22⟩ ⟨s23, s24⟩ hst (by show (t.a.x + t.a.y) + (t.b.x + t.b.y) = a.x + a.y; omega)
    · skip
      exact ta2 _ _ _ _ _ _ _ _ _ _ _ _ i1 hlt hla ⟨k1, j1, h1⟩ ⟨s11, s12⟩ ⟨s13, s14⟩ ⟨k2, j2, h2⟩ ⟨s21, s22⟩ ⟨s23, s24⟩ hst (by show (t.a.x + t.a.y) + (t.b.x + t.b.y) = a.x + a.y; omega)
    · obtain ⟨⟨-, hgx, -, ⟨b91, b92⟩, b93, b94⟩, hu, hv2⟩ := hg
      have b91 : 0 ≤ g.b.x := b91
      have b93 : 0 ≤ g.b.y := b93
      have b92 : g.b.x ≤ t.b.x := b92
      have b94 : g.b.y ≤ t.b.y := b94
      have hu : g.u = t.b.x - g.b.x := hu
      have hv2 : g.v = t.b.y - g.b.y := hv2
      exact ta3 _ _ _ _ _ _ _ _ _ _ _ _ _ _ _ _ i1 hlt hla ⟨k1, j1, h1⟩ ⟨s11, s12⟩ ⟨s13, s14⟩ ⟨k2, j2, h2⟩ (smI (show 0 ≤ g.u by omega) (show g.u ≤ 1000000 by omega)) (smI (show 0 ≤ g.v by omega) (show g.v ≤ 1000000 by omega)) hgx (smI (show 0 ≤ g.b.x by omega) (show g.b.x ≤ 1000000 by omega)) (smI (show 0 ≤ g.b.y by omega) (show g.b.y ≤ 1000000 by omega)) hst (by show (t.a.x + t.a.y) + (g.u + g.v) + (g.b.x + g.b.y) = a.x + a.y; omega)
    · obtain ⟨⟨-, k9, j9, -, -, hpay⟩, hu, hv2⟩ := hz
      obtain ⟨⟨z91, z92⟩, z93⟩ := payR_ok hpay (by show 0 ≤ t.b.x + t.b.y; omega)
      have z93 : z.b.x + z.b.y = t.b.x + t.b.y := z93
      have z91 : 0 ≤ z.b.x := z91
      have z92 : 0 ≤ z.b.y := z92
      have hu : z.u = t.a.x + z.b.x := hu
      have hv2 : z.v = t.a.y + z.b.y := hv2
      exact ta1 _ _ _ _ _ _ _ _ i1 hlt hla ⟨k1, j1, h1⟩ (smI (show 0 ≤ z.u by omega) (show z.u ≤ 1000000 by omega)) (smI (show 0 ≤ z.v by omega) (show z.v ≤ 1000000 by omega)) hst (by show (z.u + z.v) = a.x + a.y; omega)
  · obtain ⟨t, i, gg, pp⟩ := e
    obtain ⟨⟨⟨i1, i2⟩, ok, tot⟩, hst⟩ := he
    have i1 : 0 ≤ i := i1
    have i2 : i ≤ a.l := i2
    have hst : stQ gg pp := hst
    obtain ⟨n9, h9⟩ := id hst
    obtain ⟨v91, v92, v93, v94, v95, v96, v97, v98, v99, v910, v911⟩ := flG_of h9
    have tot : (t.a.x + t.a.y) + (t.b.x + t.b.y) + (t.c.x + t.c.y) = a.x + a.y := tot
    obtain ⟨⟨⟨k1, j1, h1⟩, ⟨s11, s12⟩, s13, s14⟩, ⟨⟨k2, j2, h2⟩, ⟨s21, s22⟩, s23, s24⟩, ⟨⟨k3, j3, h3⟩, ⟨s31, s32⟩, s33, s34⟩⟩ := ok
    have h1 : isG t.a.g t.a.p k1 j1 := h1
    have s11 : 0 ≤ t.a.x := s11
    have s12 : t.a.x ≤ 1000000 := s12
    have s13 : 0 ≤ t.a.y := s13
    have s14 : t.a.y ≤ 1000000 := s14
    obtain ⟨v11, v12, v13, v14, v15, v16, v17, v18, v19, v110, v111⟩ := flG_of h1
    have h2 : isG t.b.g t.b.p k2 j2 := h2
    have s21 : 0 ≤ t.b.x := s21
    have s22 : t.b.x ≤ 1000000 := s22
    have s23 : 0 ≤ t.b.y := s23
    have s24 : t.b.y ≤ 1000000 := s24
    obtain ⟨v21, v22, v23, v24, v25, v26, v27, v28, v29, v210, v211⟩ := flG_of h2
    have h3 : isG t.c.g t.c.p k3 j3 := h3
    have s31 : 0 ≤ t.c.x := s31
    have s32 : t.c.x ≤ 1000000 := s32
    have s33 : 0 ≤ t.c.y := s33
    have s34 : t.c.y ≤ 1000000 := s34
    obtain ⟨v31, v32, v33, v34, v35, v36, v37, v38, v39, v310, v311⟩ := flG_of h3
    refine ⟨fun hlt => ?_, fun hlt => ?_⟩
    rotate_left
    · exact rl3 _ _ _ _ _ _ _ _ _ _ _ _ _ _ _ _ _ _ _ _ i ⟨k1, j1, h1⟩ ⟨s11, s12⟩ ⟨s13, s14⟩ ⟨k2, j2, h2⟩ ⟨s21, s22⟩ ⟨s23, s24⟩ ⟨k3, j3, h3⟩ ⟨s31, s32⟩ ⟨s33, s34⟩ hst (lb4 a hla2 hacts2)
    have hlt : i < a.l := hlt
    obtain ⟨b1, o1, hv, w1, t1, z1, v1, va, vl, vc, ⟨q1, q2, q3, q4, q5⟩, ⟨r1, r2, r3⟩, htwo⟩ := hacts.2 i.toNat (by omega)
    refine ⟨⟨i1, hlt⟩, b1, o1, hv, fun p ep => ⟨w1, by rw [ep]; exact q1, t1, by rw [ep]; exact q2, z1, by rw [ep]; exact q3, v1, by rw [ep]; exact q4, va, vl, vc, by rw [ep]; exact q5, ?_⟩⟩
    (repeat(apply And.intro;focus(and_intros<;>first|trivial|rfl)))
    refine ⟨⟨trivial, ⟨k3, j3, h3⟩, ⟨⟨⟨s31, s32⟩, s33, s34⟩, ⟨⟨s21, s22⟩, s23, s24⟩⟩, ⟨r1, r2, r3⟩, htwo⟩, by (and_intros<;>first|trivial|rfl), fun m hm => ?_, fun er her => ?_, fun g hg => ?_, fun z hz => ?_, trivial⟩
    · obtain ⟨k9, j9, m9, i91, -, i93⟩ := hm
      exact ta3 _ _ _ _ _ _ _ _ _ _ _ _ _ _ _ _ i1 hlt hla ⟨k1, j1, h1⟩ ⟨s11, s12⟩ ⟨s13, s14⟩ ⟨k2, j2, h2⟩ ⟨s21, s22⟩ ⟨s23, s24⟩ ⟨k9, m9, i93⟩ ⟨s31, s32⟩ ⟨s33, s34⟩ hst (by show (t.a.x + t.a.y) + (t.b.x + t.b.y) + (t.c.x + t.c.y) = a.x + a.y; omega)
    · skip
      exact ta3 _ _ _ _ _ _ _ _ _ _ _ _ _ _ _ _ i1 hlt hla ⟨k1, j1, h1⟩ ⟨s11, s12⟩ ⟨s13, s14⟩ ⟨k2, j2, h2⟩ ⟨s21, s22⟩ ⟨s23, s24⟩ ⟨k3, j3, h3⟩ ⟨s31, s32⟩ ⟨s33, s34⟩ hst (by show (t.a.x + t.a.y) + (t.b.x + t.b.y) + (t.c.x + t.c.y) = a.x + a.y; omega)
    · obtain ⟨⟨-, hgx, -, ⟨b91, b92⟩, b93, b94⟩, hu, hv2⟩ := hg
      have b91 : 0 ≤ g.b.x := b91
      have b93 : 0 ≤ g.b.y := b93
      have b92 : g.b.x ≤ t.c.x := b92
      have b94 : g.b.y ≤ t.c.y := b94
      have hu : g.u = t.c.x - g.b.x := hu
      have hv2 : g.v = t.c.y - g.b.y := hv2
      exact ta4 _ _ _ _ _ _ _ _ _ _ _ _ _ _ _ _ _ _ _ _ i1 hlt hla ⟨k1, j1, h1⟩ ⟨s11, s12⟩ ⟨s13, s14⟩ ⟨k2, j2, h2⟩ ⟨s21, s22⟩ ⟨s23, s24⟩ ⟨k3, j3, h3⟩ (smI (show 0 ≤ g.u by omega) (show g.u ≤ 1000000 by omega)) (smI (show 0 ≤ g.v by omega) (show g.v ≤ 1000000 by omega)) hgx (smI (show 0 ≤ g.b.x by omega) (show g.b.x ≤ 1000000 by omega)) (smI (show 0 ≤ g.b.y by omega) (show g.b.y ≤ 1000000 by omega)) hst (by show (t.a.x + t.a.y) + (t.b.x + t.b.y) + (g.u + g.v) + (g.b.x + g.b.y) = a.x + a.y; omega)
    · obtain ⟨⟨-, k9, j9, -, -, hpay⟩, hu, hv2⟩ := hz
      obtain ⟨⟨z91, z92⟩, z93⟩ := payR_ok hpay (by show 0 ≤ t.c.x + t.c.y; omega)
      have z93 : z.b.x + z.b.y = t.c.x + t.c.y := z93
      have z91 : 0 ≤ z.b.x := z91
      have z92 : 0 ≤ z.b.y := z92
      have hu : z.u = t.b.x + z.b.x := hu
      have hv2 : z.v = t.b.y + z.b.y := hv2
      exact ta2 _ _ _ _ _ _ _ _ _ _ _ _ i1 hlt hla ⟨k1, j1, h1⟩ ⟨s11, s12⟩ ⟨s13, s14⟩ ⟨k2, j2, h2⟩ (smI (show 0 ≤ z.u by omega) (show z.u ≤ 1000000 by omega)) (smI (show 0 ≤ z.v by omega) (show z.v ≤ 1000000 by omega)) hst (by show (t.a.x + t.a.y) + (z.u + z.v) = a.x + a.y; omega)
  · obtain ⟨t, i, gg, pp⟩ := e
    obtain ⟨⟨⟨i1, i2⟩, ok, tot⟩, hst⟩ := he
    have i1 : 0 ≤ i := i1
    have i2 : i ≤ a.l := i2
    have hst : stQ gg pp := hst
    obtain ⟨n9, h9⟩ := id hst
    obtain ⟨v91, v92, v93, v94, v95, v96, v97, v98, v99, v910, v911⟩ := flG_of h9
    have tot : (t.a.x + t.a.y) + (t.b.x + t.b.y) + (t.c.x + t.c.y) + (t.e.x + t.e.y) = a.x + a.y := tot
    obtain ⟨⟨⟨k1, j1, h1⟩, ⟨s11, s12⟩, s13, s14⟩, ⟨⟨k2, j2, h2⟩, ⟨s21, s22⟩, s23, s24⟩, ⟨⟨k3, j3, h3⟩, ⟨s31, s32⟩, s33, s34⟩, ⟨⟨k4, j4, h4⟩, ⟨s41, s42⟩, s43, s44⟩⟩ := ok
    have h1 : isG t.a.g t.a.p k1 j1 := h1
    have s11 : 0 ≤ t.a.x := s11
    have s12 : t.a.x ≤ 1000000 := s12
    have s13 : 0 ≤ t.a.y := s13
    have s14 : t.a.y ≤ 1000000 := s14
    obtain ⟨v11, v12, v13, v14, v15, v16, v17, v18, v19, v110, v111⟩ := flG_of h1
    have h2 : isG t.b.g t.b.p k2 j2 := h2
    have s21 : 0 ≤ t.b.x := s21
    have s22 : t.b.x ≤ 1000000 := s22
    have s23 : 0 ≤ t.b.y := s23
    have s24 : t.b.y ≤ 1000000 := s24
    obtain ⟨v21, v22, v23, v24, v25, v26, v27, v28, v29, v210, v211⟩ := flG_of h2
    have h3 : isG t.c.g t.c.p k3 j3 := h3
    have s31 : 0 ≤ t.c.x := s31
    have s32 : t.c.x ≤ 1000000 := s32
    have s33 : 0 ≤ t.c.y := s33
    have s34 : t.c.y ≤ 1000000 := s34
    obtain ⟨v31, v32, v33, v34, v35, v36, v37, v38, v39, v310, v311⟩ := flG_of h3
    have h4 : isG t.e.g t.e.p k4 j4 := h4
    have s41 : 0 ≤ t.e.x := s41
    have s42 : t.e.x ≤ 1000000 := s42
    have s43 : 0 ≤ t.e.y := s43
    have s44 : t.e.y ≤ 1000000 := s44
    obtain ⟨v41, v42, v43, v44, v45, v46, v47, v48, v49, v410, v411⟩ := flG_of h4
    refine ⟨fun hlt => ?_, fun hlt => ?_⟩
    rotate_left
    · exact rl4 _ _ _ _ _ _ _ _ _ _ _ _ _ _ _ _ _ _ _ _ _ _ _ i a ⟨k1, j1, h1⟩ ⟨s11, s12⟩ ⟨s13, s14⟩ ⟨k2, j2, h2⟩ ⟨s21, s22⟩ ⟨s23, s24⟩ ⟨k3, j3, h3⟩ ⟨s31, s32⟩ ⟨s33, s34⟩ ⟨k4, j4, h4⟩ ⟨s41, s42⟩ ⟨s43, s44⟩ hst
    have hlt : i < a.l := hlt
    obtain ⟨b1, o1, hv, w1, t1, z1, v1, va, vl, vc, ⟨q1, q2, q3, q4, q5⟩, ⟨r1, r2, r3⟩, htwo⟩ := hacts.2 i.toNat (by omega)
    refine ⟨⟨i1, hlt⟩, b1, o1, hv, fun p ep => ⟨w1, by rw [ep]; exact q1, t1, by rw [ep]; exact q2, z1, by rw [ep]; exact q3, v1, by rw [ep]; exact q4, va, vl, vc, by rw [ep]; exact q5, ?_⟩⟩
    (repeat(apply And.intro;focus(and_intros<;>first|trivial|rfl)))
    refine ⟨⟨trivial, ⟨k4, j4, h4⟩, ⟨⟨⟨s41, s42⟩, s43, s44⟩, ⟨⟨s31, s32⟩, s33, s34⟩⟩, ⟨r1, r2, r3⟩, htwo⟩, by (and_intros<;>first|trivial|rfl), fun m hm => ?_, fun er her => ?_, fun z hz => ?_, trivial⟩
    · obtain ⟨k9, j9, m9, i91, -, i93⟩ := hm
      exact ta4 _ _ _ _ _ _ _ _ _ _ _ _ _ _ _ _ _ _ _ _ i1 hlt hla ⟨k1, j1, h1⟩ ⟨s11, s12⟩ ⟨s13, s14⟩ ⟨k2, j2, h2⟩ ⟨s21, s22⟩ ⟨s23, s24⟩ ⟨k3, j3, h3⟩ ⟨s31, s32⟩ ⟨s33, s34⟩ ⟨k9, m9, i93⟩ ⟨s41, s42⟩ ⟨s43, s44⟩ hst (by show (t.a.x + t.a.y) + (t.b.x + t.b.y) + (t.c.x + t.c.y) + (t.e.x + t.e.y) = a.x + a.y; omega)
    · skip
      exact ta4 _ _ _ _ _ _ _ _ _ _ _ _ _ _ _ _ _ _ _ _ i1 hlt hla ⟨k1, j1, h1⟩ ⟨s11, s12⟩ ⟨s13, s14⟩ ⟨k2, j2, h2⟩ ⟨s21, s22⟩ ⟨s23, s24⟩ ⟨k3, j3, h3⟩ ⟨s31, s32⟩ ⟨s33, s34⟩ ⟨k4, j4, h4⟩ ⟨s41, s42⟩ ⟨s43, s44⟩ hst (by show (t.a.x + t.a.y) + (t.b.x + t.b.y) + (t.c.x + t.c.y) + (t.e.x + t.e.y) = a.x + a.y; omega)
    · obtain ⟨⟨-, k9, j9, -, -, hpay⟩, hu, hv2⟩ := hz
      obtain ⟨⟨z91, z92⟩, z93⟩ := payR_ok hpay (by show 0 ≤ t.e.x + t.e.y; omega)
      have z93 : z.b.x + z.b.y = t.e.x + t.e.y := z93
      have z91 : 0 ≤ z.b.x := z91
      have z92 : 0 ≤ z.b.y := z92
      have hu : z.u = t.c.x + z.b.x := hu
      have hv2 : z.v = t.c.y + z.b.y := hv2
      exact ta3 _ _ _ _ _ _ _ _ _ _ _ _ _ _ _ _ i1 hlt hla ⟨k1, j1, h1⟩ ⟨s11, s12⟩ ⟨s13, s14⟩ ⟨k2, j2, h2⟩ ⟨s21, s22⟩ ⟨s23, s24⟩ ⟨k3, j3, h3⟩ (smI (show 0 ≤ z.u by omega) (show z.u ≤ 1000000 by omega)) (smI (show 0 ≤ z.v by omega) (show z.v ≤ 1000000 by omega)) hst (by show (t.a.x + t.a.y) + (t.b.x + t.b.y) + (z.u + z.v) = a.x + a.y; omega)
theorem s_inner : SpecOK Tryz.prog S_inner.spec := fun a => specG_at (an := [some (la_in1 a), some (la_in2 a)]) envOK cwIn_ok fun hp => g_inner a hp.1.1.1 hp.1.1.2 hp.1.2.1 hp.1.2.2 hp.2.1 hp.2.2
end Go.Proofs.YtfkacmmcgncooaaGreatDoor
