/- A program's code: Run of play is what is told of it. -/
import Derived.Test.YtdjnipabfbblnaaGreatDoorYmxP
import Derived.Test.YtdjnipabfbblnaaGreatDoorYgtP
section
set_option maxRecDepth 100000
namespace Go.Proofs.YtdjnipabfbblnaaGreatDoor
open Go.Ev
set_option linter.unusedSectionVars false
variable [Go.Ev.Frozen Tryz.prog]
set_option maxHeartbeats 3200000 in
abbrev QYnpP_1 (a0 : SA) (a1 : List Int) : Prop := Sli (Value.int IntKind.i32) 1 a0.1 a0.2 a0.3 a0.4 a0.5 a1
abbrev QYnpP_2 (a0 : FtA) : Prop := (↑a0.2.3 : Int) = a0.1.1 ∧ a0.3.3 = a0.1.4.3 ∧ ∀ (b0 : List (Int × Int)) (b1 : List Int), VrH a0.1.4 b0 → QYnpP_1 a0.3 b1 → inArgs b0 b1 a0.3.3
abbrev QYnpP_3 : Prop := (0 : Int) = 0 ∧ (0 : Int) = 0 ∧ (0 : Int) = 0 ∧ (0 = 0 ∧ 0 = 0) ∧ (0 : Int) = 0 ∧ True
abbrev QYnpP_4 (a0 : CdA) : Prop := True ∧ a0.1 = a0.1 ∧ a0.2 = a0.2 ∧ Z4 a0.3 ∧ Z4 a0.4 ∧ Z4 a0.5 ∧ Z4 a0.6 ∧ Z4 a0.7 ∧ Z4 a0.8 ∧ Z4 a0.9 ∧ a0.10 = a0.10 ∧ a0.11 = a0.11 ∧ a0.12 =
 a0.12 ∧ a0.13 = a0.13 ∧ a0.14 = a0.14 ∧ True
abbrev QYnpP_5 (a0 : SA) (a1 : List Int) : Prop := Sli (Value.int IntKind.i64) 4 a0.1 a0.2 a0.3 a0.4 a0.5 a1
abbrev QYnpP_6 (a0 : FtA) : Prop := ((↑a0.2.3 : Int) = a0.1.1 ∧ a0.3.3 = a0.1.4.3) ∧ ∀ (b0 : List (Int × Int)) (b1 : List Int), VrH a0.1.4 b0 → QYnpP_1 a0.3 b1 → ¬(inArgs b0 b1
 a0.3.3)
theorem vc_run2 (a : FtA) : G_run2 a = ((True ∧ (cdP a.1 ∧ a.1.4.3 ≤ 4 ∧ a.3.3 ≤ 1000) ∧ (∃ (x0 : List Int), QYnpP_1 a.2 x0) ∧ (∃ (x1 : List Int), QYnpP_1 a.3 x1 ∧ W32 x1) ∧ (∃ (x2 : List (Int × Int)), VrH a.1.4 x2)) ∧
((0 = 0 ∧ (2 : Int) = 2 ∧ Z4 a.2 ∧ Z4 a.3 ∧ True) ∧ QYnpP_4 a.1 ∧ ZF a.1.3.5 ∧ ZF a.1.4.5 ∧ ZF a.1.5.5 ∧ ZF a.1.6.5 ∧ ZF a.1.7.5 ∧ ZF a.1.8.5 ∧ ZF a.1.9.5 ∧ ZF a.2.5 ∧ ZF a.3.5 ∧
True) ∧ (∀ (x3 : NwO), (((↑a.2.3 : Int) = a.1.1 ∧ a.3.3 = a.1.4.3) ∧ x3.1 = a.2.3 + 49 ∧ (∀ (x4 : List (Int × Int)) (x5 : List Int), VrH a.1.4 x4 → QYnpP_1 a.3 x5 → inArgs x4 x5
a.3.3)) ∧ (∀ (x6 x7 : List Int), QYnpP_1 a.2 x6 → QYnpP_1 a.3 x7 → HE IntKind.i32 x3.2 (x6 ++ (x7 ++ List.replicate (49 - List.length x7) (0 : Int)))) → (True ∧ (∃ (x8 : List Int),
Sli (Value.int IntKind.i32) 1 false (nat_lit 0) x3.1 x3.1 x3.2 x8 ∧ W32 x8) ∧ (1 ≤ x3.1 ∧ x3.1 ≤ 256) ∧ (∃ (x9 : List Int), QYnpP_5 a.1.7 x9) ∧ ((0 : Int) ≤ Int.ofNat 0 ∧ Int.ofNat
0 ≤ (2048 : Int)) ∧ ((0 : Int) ≤ Int.ofNat 0 ∧ Int.ofNat 0 ≤ (2 : Int)) ∧ 0 ≤ a.1.12) ∧ ((Z4 a.1.7 ∧ (Int.ofNat 0 = (0 : Int) ∧ (nat_lit 0 = 0 ∧ x3.1 = x3.1 ∧ x3.1 = x3.1) ∧
Int.ofNat 0 = (0 : Int) ∧ True) ∧ a.1.12 = a.1.12 ∧ True) ∧ ZF a.1.7.5 ∧ ZF x3.2 ∧ ZF cells4 ∧ True) ∧ (∀ (x10 : RnO), x3.1 ≤ x10.3 ∧ (∀ (x11 x12 : List Int), Sli (Value.int
IntKind.i32) 1 false (nat_lit 0) x3.1 x3.1 x3.2 x11 → W32 x11 → QYnpP_5 a.1.7 x12 → HE IntKind.i32 x10.4 (runC x12 (MS.mk (Int.ofNat 0) x11 (Int.ofNat 0)) (manyC a.1.12)).2 ∧ x10.1
= (runC x12 (MS.mk (Int.ofNat 0) x11 (Int.ofNat 0)) (manyC a.1.12)).1 ∧ x10.2 = (runC x12 (MS.mk (Int.ofNat 0) x11 (Int.ofNat 0)) (manyC a.1.12)).3) → (True ∧ True ∧ True ∧ True ∧
True ∧ True ∧ True ∧ True ∧ True ∧ True ∧ True ∧ True ∧ True ∧ True ∧ True ∧ True ∧ (True ∧ True) ∧ (True ∧ True) ∧ True ∧ True) ∧ (True ∧ cdP a.1 ∧ (↑x3.1 : Int) = a.1.1 + (49 :
Int) ∧ (∃ (x13 : List Int), Sli (Value.int IntKind.i32) 1 false (nat_lit 0) x3.1 x10.3 x10.4 x13 ∧ W32 x13)) ∧ ((0 = 0 ∧ (2 : Int) = 2 ∧ (x10.1 = x10.1 ∧ (nat_lit 0 = 0 ∧ x3.1 =
x3.1 ∧ x10.3 = x10.3) ∧ x10.2 = x10.2 ∧ True) ∧ True) ∧ QYnpP_4 a.1 ∧ ZF a.1.3.5 ∧ ZF a.1.4.5 ∧ ZF a.1.5.5 ∧ ZF a.1.6.5 ∧ ZF a.1.7.5 ∧ ZF a.1.8.5 ∧ ZF a.1.9.5 ∧ ZF x10.4 ∧ True) ∧
(∀ (x14 : OtO), x10.2 = 1 ∧ a.1.1 ≤ (↑x14.1 : Int) ∧ (∀ (x15 : List Int), Sli (Value.int IntKind.i32) 1 false (nat_lit 0) x3.1 x10.3 x10.4 x15 → HE IntKind.i32 x14.2 (List.take
(Int.toNat a.1.1) x15) ∧ x14.3 = List.getD x15 (Int.toNat (a.1.1 + (5 : Int))) (0 : Int) ∧ x14.4 = List.getD x15 (Int.toNat (a.1.1 + (6 : Int))) (0 : Int)) → ∃ (x16 : OtO),
((QYnpP_2 a ∧ a.1.1 ≤ (↑x16.1 : Int)) ∧ (∀ (x19 x20 x21 : List Int), QYnpP_1 a.2 x19 → QYnpP_1 a.3 x20 → QYnpP_5 a.1.7 x21 → (lastC x19 (x20 ++ List.replicate (49 - List.length
x20) (0 : Int)) x21 a.1.12).3 = (1 : Int) ∧ HE IntKind.i32 x16.2 (List.take (Int.toNat a.1.1) (lastC x19 (x20 ++ List.replicate (49 - List.length x20) (0 : Int)) x21 a.1.12).2) ∧
x16.3 = List.getD (lastC x19 (x20 ++ List.replicate (49 - List.length x20) (0 : Int)) x21 a.1.12).2 (Int.toNat (a.1.1 + (5 : Int))) (0 : Int) ∧ x16.4 = List.getD (lastC x19 (x20 ++
List.replicate (49 - List.length x20) (0 : Int)) x21 a.1.12).2 (Int.toNat (a.1.1 + (6 : Int))) (0 : Int))) ∧ (((0 = 0 ∧ Int.toNat a.1.1 = Int.toNat a.1.1 ∧ x16.1 = x14.1) ∧ false =
false ∧ (0 : Int) = 0 ∧ x16.3 = x14.3 ∧ x16.4 = x14.4 ∧ (0 = 0 ∧ 0 = 0) ∧ (0 : Int) = 0 ∧ True) ∧ (0 : Int) = 0 ∧ True) ∧ (x16.1 = x14.1 ∧ FlatL x16.2 ∧ x16.2 = x14.2) ∧ True) ∧ (∀
(_ : Unit), x10.2 = 2 → ∃ (_ : Unit), (QYnpP_2 a ∧ (∀ (x26 x27 x28 : List Int), QYnpP_1 a.2 x26 → QYnpP_1 a.3 x27 → QYnpP_5 a.1.7 x28 → (lastC x26 (x27 ++ List.replicate (49 -
List.length x27) (0 : Int)) x28 a.1.12).3 = (2 : Int))) ∧ (((0 = 0 ∧ 0 = 0) ∧ true = true ∧ QYnpP_3) ∧ (0 : Int) = 0 ∧ True) ∧ True) ∧ (∀ (_ : Unit), x10.2 ≠ 1 ∧ x10.2 ≠ 2 → ∃ (_ :
Unit), (QYnpP_2 a ∧ (∀ (x33 x34 x35 : List Int), QYnpP_1 a.2 x33 → QYnpP_1 a.3 x34 → QYnpP_5 a.1.7 x35 → (lastC x33 (x34 ++ List.replicate (49 - List.length x34) (0 : Int)) x35
a.1.12).3 ≠ (1 : Int) ∧ (lastC x33 (x34 ++ List.replicate (49 - List.length x34) (0 : Int)) x35 a.1.12).3 ≠ (2 : Int))) ∧ (((0 = 0 ∧ 0 = 0) ∧ false = false ∧ QYnpP_3) ∧ (10 : Int)
= 10 ∧ True) ∧ True) ∧ True) ∧ True) ∧ (∀ (_ : Unit), ((↑a.2.3 : Int) = a.1.1 ∧ a.3.3 = a.1.4.3 → False) → ∃ (_ : Unit), ((↑a.2.3 : Int) = a.1.1 ∧ a.3.3 = a.1.4.3 → False) ∧ (((0 =
0 ∧ 0 = 0) ∧ false = false ∧ QYnpP_3) ∧ (3 : Int) = 3 ∧ True) ∧ True) ∧ (∀ (_ : Unit), QYnpP_6 a → ∃ (_ : Unit), QYnpP_6 a ∧ (((0 = 0 ∧ 0 = 0) ∧ false = false ∧ QYnpP_3) ∧ (2 :
Int) = 2 ∧ True) ∧ True) ∧ True) := by kernel_rfl
theorem g_run2 (a : FtA) (xs gs cs : List Int) (hc : cdP a.c) (ps : List (Int × Int)) (hpl : a.c.params.l ≤ 4) (hgm : a.g.l ≤ 1000) (hps : VrH a.c.params ps) (hm : 0 ≤ a.c.m2) (hx : Sli (Value.int .i32) 1 a.v.n a.v.o a.v.l a.v.k a.v.c xs) (hw : W32 xs) (hgs : Sli (Value.int .i32) 1 a.g.n a.g.o a.g.l a.g.k a.g.c gs) (hwg : W32 gs) (hcs : Sli (Value.int .i64) 4 a.c.i2.n a.c.i2.o a.c.i2.l a.c.i2.k a.c.i2.c cs) : G_run2 a := by
  have hc0 := hc
  have fv := hx.flat
  have fo := opsFlat
  have fg := hgs.flat
  have hgl2 : gs.length = a.g.l := by have := hgs.len; omega
  obtain ⟨⟨⟨hn0, hn1⟩, hs0, hs1⟩, hf⟩ := hc
  obtain ⟨f1, f2, f3, f4, f5, f6, f7⟩ := hf
  have a11 : a.1.1 = a.c.cells := rfl
  have a23 : a.2.3 = a.v.l := rfl
  have hl : xs.length = a.v.l := by have := hx.len; omega
  have hwz : W32 (xs ++ (gs ++ List.replicate (49 - gs.length) 0)) := w32_app hw (w32_app hwg (w32_z _))
  rw [vc_run2]
  refine ⟨⟨trivial, ⟨hc0, hpl, hgm⟩, ⟨xs, hx⟩, ⟨gs, hgs, hwg⟩, ps, hps⟩, by repeat' first | with_reducible apply And.intro | exact trivial | exact rfl | assumption, fun x1 h1 => ?_, fun _ hne => ⟨(), hne, by repeat' first | with_reducible apply And.intro | exact trivial | exact rfl | assumption⟩, fun _ hne => ⟨(), hne, by repeat' first | with_reducible apply And.intro | exact trivial | exact rfl | assumption⟩, trivial⟩
  obtain ⟨⟨⟨hl0, hgp⟩, hl2, hin⟩, h1⟩ := h1
  have hl0 : (a.v.l : Int) = a.c.cells := hl0
  have hgp : a.g.l = a.c.params.l := hgp
  have hl1 : ((a.v.l : Int) = a.c.cells ∧ a.g.l = a.c.params.l ∧ ∀ ps gs, VrH a.c.params ps → argsOf a.g gs → inArgs ps gs a.g.l) := ⟨hl0, hgp, hin⟩
  have x11 : x1.1 = x1.l := rfl
  have h2 := h1 xs gs hx hgs
  have fz := heFlat h2
  have hzl : (xs ++ (gs ++ List.replicate (49 - gs.length) 0)).length = x1.l * 1 := by rw [List.length_append, List.length_append, List.length_replicate]; omega
  have hs : Sli (Value.int .i32) 1 false 0 x1.l x1.l x1.c (xs ++ (gs ++ List.replicate (49 - gs.length) 0)) := Sli.row h2 hzl (Nat.le_refl _) fz
  refine ⟨⟨trivial, ⟨_, hs, hwz⟩, ⟨by omega, by omega⟩, ⟨cs, hcs⟩, ⟨Int.le_refl 0, by decide⟩, ⟨Int.le_refl 0, by decide⟩, hm⟩, by repeat' first | with_reducible apply And.intro | exact trivial | exact rfl | assumption, fun x5 h5 => ?_, trivial⟩
  obtain ⟨q1, q2, q3⟩ := h5.2 _ cs hs hwz hcs
  have h5k := h5.1
  have f5' := heFlat q1
  have x53 : x5.3 = x5.k := rfl
  have hrl : (lastC xs (gs ++ List.replicate (49 - gs.length) 0) cs a.c.m2).mem.length = x1.l * 1 := by show (runC _ _ _).mem.length = _; rw [runC_len]; exact hzl
  have hs5 : Sli (Value.int .i32) 1 false 0 x1.l x5.k x5.c (lastC xs (gs ++ List.replicate (49 - gs.length) 0) cs a.c.m2).mem := Sli.row q1 hrl (by omega) f5'
  have hw5 : W32 (lastC xs (gs ++ List.replicate (49 - gs.length) 0) cs a.c.m2).mem := runC_w32 _ _ _ hwz
  have U : ∀ {p : MS → Prop}, p (lastC xs (gs ++ List.replicate (49 - gs.length) 0) cs a.c.m2) → ∀ ys us ds : List Int, Sli (Value.int .i32) 1 a.v.n a.v.o a.v.l a.v.k a.v.c ys → Sli (Value.int .i32) 1 a.g.n a.g.o a.g.l a.g.k a.g.c us → Sli (Value.int .i64) 4 a.c.i2.n a.c.i2.o a.c.i2.l a.c.i2.k a.c.i2.c ds → p (lastC ys (us ++ List.replicate (49 - us.length) 0) ds a.c.m2) := fun h ys us ds hy hu hd => by rw [Sli.uniqI hy hx, Sli.uniqI hu hgs, Sli.uniqI hd hcs]; exact h
  refine ⟨by repeat' first | with_reducible apply And.intro | exact trivial | exact rfl | assumption, ⟨trivial, hc0, by omega, _, hs5, hw5⟩, by repeat' first | with_reducible apply And.intro | exact trivial | exact rfl | assumption, fun x9 h9 => ?_,
    fun _ h => ⟨(), ⟨hl1, U (p := fun s => s.halt = 2) (q3.symm.trans h)⟩, by repeat' first | with_reducible apply And.intro | exact trivial | exact rfl | assumption⟩, fun _ h => ⟨(), ⟨hl1, U (p := fun s => s.halt ≠ 1 ∧ s.halt ≠ 2) ⟨fun k => h.1 (q3.trans k), fun k => h.2 (q3.trans k)⟩⟩, by repeat' first | with_reducible apply And.intro | exact trivial | exact rfl | assumption⟩, trivial⟩
  obtain ⟨w1, w2, w3⟩ := h9
  obtain ⟨w3, w4, w5⟩ := w3 _ hs5
  have f9 := heFlat w3
  exact ⟨⟨x9.k, x9.c, x9.p, x9.q⟩, ⟨⟨hl1, w2⟩, U (p := fun s => s.halt = 1 ∧ HE .i32 x9.c (s.mem.take a.c.cells.toNat) ∧ x9.p = s.mem.getD (a.c.cells + 5).toNat 0 ∧ x9.q = s.mem.getD (a.c.cells + 6).toNat 0) ⟨q3.symm.trans w1, w3, w4, w5⟩⟩, by repeat' first | with_reducible apply And.intro | exact trivial | exact rfl | assumption⟩
theorem s_run2 : SpecOK Tryz.prog S_run2.spec := fun a K ⟨⟨hc, hpl, hgm, hm⟩, ⟨xs, hx, hw⟩, ⟨gs, hgs, hwg⟩, ⟨ps, hps⟩, cs, hcs⟩ hq => specD_at (an := []) envOK (cwN_ok (fun _ h => cwP_ok s_stat2 (cwP_ok s_out2 (cwD_ok s_mrun h))) 3) (fun _ => g_run2 a xs gs cs hc ps hpl hgm hps hm hx hw hgs hwg hcs) K ⟨⟨hc, hpl, hgm, hm⟩, ⟨xs, hx, hw⟩, ⟨gs, hgs, hwg⟩, ⟨ps, hps⟩, cs, hcs⟩ hq
end Go.Proofs.YtdjnipabfbblnaaGreatDoor
end

/- A game as plain data: its rules, its positions, whose turn it is, what is played, shown, not said, what is paid (plain functions). -/
section
set_option maxRecDepth 100000
namespace Go.Proofs.YtdjnipabfbblnaaGreatDoor
open Go.Ev
structure GX where
  ns : Nat
  nc : Nat
  stakes : List Int
  cells : List Int
  first : List Int
  params : List (Int × Int)
  w0 : List Int
  w1 : List Int
  w2 : List Int
  w3 : List Int
  w4 : List Int
  m0 : Int
  m1 : Int
  m2 : Int
  m3 : Int
  m4 : Int
structure PsX where
  x : PX
  r0 : Int
  r1 : Int
  r2 : Int
  r3 : Int
  r4 : Int
abbrev PA.ps (p : PA) (x : PX) : PsX := ⟨x, p.r0, p.r1, p.r2, p.r3, p.r4⟩
structure GH (a : GmA) (X : GX) : Prop where
  ns : a.stakes.l = X.ns
  nc : a.cells.l = X.nc
  stakes : Sli (Value.int .i64) 1 a.stakes.n a.stakes.o a.stakes.l a.stakes.k a.stakes.c X.stakes
  cells : cellsOf a X.cells
  first : argsOf a.code.first X.first
  params : VrH a.code.params X.params
  w0 : codeOf a.code.i0 X.w0
  w1 : codeOf a.code.i1 X.w1
  w2 : codeOf a.code.i2 X.w2
  w3 : codeOf a.code.i3 X.w3
  w4 : codeOf a.code.i4 X.w4
  m0 : a.code.m0 = X.m0
  m1 : a.code.m1 = X.m1
  m2 : a.code.m2 = X.m2
  m3 : a.code.m3 = X.m3
  m4 : a.code.m4 = X.m4
structure GOk (a : GmA) : Prop where
  f : gmF a
  c : cdP a.code
  ns : (a.stakes.l : Int) = a.code.seats
  nc : (a.cells.l : Int) = a.code.cells
  nf : (a.code.first.l : Int) = a.code.cells
  np : a.code.params.l ≤ 4
  m : 0 ≤ a.code.m0 ∧ 0 ≤ a.code.m1 ∧ 0 ≤ a.code.m2 ∧ 0 ≤ a.code.m3 ∧ 0 ≤ a.code.m4
  x : ∃ X, GH a X ∧ W32 X.first
set_option linter.unusedSectionVars false
variable [Go.Ev.Frozen Tryz.prog]
theorem GH.uniq {a : GmA} {X Y : GX} (h : GH a X) (g : GH a Y) : X = Y := by
  obtain ⟨a1, a2, a3, a4, a5, a6, a7, a8, a9, b0, b1, b2, b3, b4, b5, b6⟩ := h
  obtain ⟨c1, c2, c3, c4, c5, c6, c7, c8, c9, d0, d1, d2, d3, d4, d5, d6⟩ := g
  have e3 := Sli.uniqI a3 c3
  have e4 := Sli.uniqI a4 c4
  have e5 := Sli.uniqI a5 c5
  have e6 := vrUniq a6 c6
  have e7 := Sli.uniqI a7 c7
  have e8 := Sli.uniqI a8 c8
  have e9 := Sli.uniqI a9 c9
  have e10 := Sli.uniqI b0 d0
  have e11 := Sli.uniqI b1 d1
  cases X; cases Y
  simp only [GX.mk.injEq]
  exact ⟨a1.symm.trans c1, a2.symm.trans c2, e3, e4, e5, e6, e7, e8, e9, e10, e11, b2.symm.trans d2, b3.symm.trans d3, b4.symm.trans d4, b5.symm.trans d5, b6.symm.trans d6⟩
def zR (s : PsX) : Prop := s.r0 = 0 ∧ s.r1 = 0 ∧ s.r2 = 0 ∧ s.r3 = 0 ∧ s.r4 = 0
instance {s : PsX} : Decidable (zR s) := by unfold zR; infer_instance
def okR (X : GX) (s : PsX) : Prop := (0 ≤ s.r0 ∧ s.r0 < X.nc) ∧ (2 ≤ s.r1 ∧ s.r1 ≤ 1000) ∧ (0 ≤ s.r2 ∧ s.r2 < X.ns) ∧ (0 ≤ s.r3 ∧ s.r3 < X.ns) ∧ s.x.gone.getD s.r3.toNat false = false
instance {X : GX} {s : PsX} : Decidable (okR X s) := by unfold okR; infer_instance
def lenX (X : GX) (s : PsX) : Prop := s.x.vars.length = X.nc ∧ s.x.gone.length = X.ns ∧ s.x.tips.length = X.ns * 8
instance {X : GX} {s : PsX} : Decidable (lenX X s) := by unfold lenX; infer_instance
instance {cs xs : List Int} {n : Nat} : Decidable (inAll cs xs n) := by unfold inAll; infer_instance
instance {ps : List (Int × Int)} {gs : List Int} {n : Nat} : Decidable (inArgs ps gs n) := by unfold inArgs; infer_instance
def inX (X : GX) (s : PsX) : Prop := inAll X.cells s.x.vars X.nc ∧ (zR s ∨ okR X s)
instance {X : GX} {s : PsX} : Decidable (inX X s) := by unfold inX; infer_instance
def checkX (X : GX) (s : PsX) : Int := if lenX X s then (if inX X s then 0 else 2) else 3
def seatX (X : GX) (s : PsX) (n : Int) : Int := if (0 ≤ n ∧ n < X.ns) ∧ s.x.gone.getD n.toNat false = false then n else -1
def turnX (X : GX) (s : PsX) : Int :=
  if checkX X s ≠ 0 then -1 else if ¬ zR s then s.r3 else
  if (lastC s.x.vars z49 X.w1 X.m1).halt = 1 then seatX X s ((lastC s.x.vars z49 X.w1 X.m1).mem.getD (X.nc + 4) 0) else
  if (lastC s.x.vars z49 X.w1 X.m1).halt = 2 then seatX X s 0 else -1
def goB (g : List Bool) (n s : Nat) : Nat → Nat → Nat
  | 0, j => (s + j) % n
  | k + 1, j => if (s + j) % n ≠ s ∧ g.getD ((s + j) % n) false = true then goB g n s k (j + 1) else (s + j) % n
def behX (g : List Bool) (n s : Nat) : Nat := goB g n s n 1
def goP (g : List Bool) (n m s : Nat) : Nat → Nat → Option Nat
  | 0, _ => none
  | k + 1, j => if (s + j) % n = m then none else if g.getD ((s + (j + 1)) % n) false = true then goP g n m s k (j + 1) else some ((s + (j + 1)) % n)
def pasX (g : List Bool) (n m s : Nat) : Option Nat := goP g n m s n 0
def sideX (X : GX) (s : PsX) : Int := min (max (1 + s.r4.tmod s.r1) (X.cells.getD (2 * s.r0.toNat) 0)) (X.cells.getD (2 * s.r0.toNat + 1) 0)
def passX (X : GX) (s : PsX) (seat : Nat) : PsX := match pasX s.x.gone X.ns s.r2.toNat seat with
  | some k => ⟨s.x, s.r0, s.r1, s.r2, (k : Int), s.r4⟩
  | none => ⟨⟨s.x.vars.set s.r0.toNat (sideX X s), s.x.gone, s.x.tips⟩, 0, 0, 0, 0, 0⟩
abbrev padX (gs : List Int) : List Int := gs ++ List.replicate (49 - gs.length) 0
def rollX (X : GX) (s : PsX) (seat : Nat) (e : MS) : PsX := if e.mem.getD (X.nc + 6) 0 = 0 then ⟨⟨e.mem.take X.nc, s.x.gone, s.x.tips⟩, s.r0, s.r1, s.r2, s.r3, s.r4⟩ else
  ⟨⟨e.mem.take X.nc, s.x.gone, s.x.tips⟩, e.mem.getD (X.nc + 5) 0, e.mem.getD (X.nc + 6) 0, (seat : Int), (behX s.x.gone X.ns seat : Int), 0⟩
def playX (X : GX) (s : PsX) (seat : Nat) (gs : List Int) : Option PsX :=
  if s.x.vars.length = X.nc ∧ gs.length = X.params.length ∧ inArgs X.params gs gs.length ∧ (lastC s.x.vars (padX gs) X.w2 X.m2).halt = 1 then
    some (rollX X s seat (lastC s.x.vars (padX gs) X.w2 X.m2)) else none
def putTip (t : List Int) (k : Nat) (d : List Int) : List Int := t.take (k * 8) ++ (d ++ t.drop (k * 8 + 8))
def shownX (s : PsX) (seat : Nat) (d : D8) : PsX := ⟨⟨s.x.vars, s.x.gone, putTip s.x.tips seat d.l⟩, s.r0, s.r1, s.r2, s.r3, IntKind.wrap .u64 (s.r4 + dnum d.l)⟩
def tipX (s : PsX) (k : Nat) : D8 := chk s.x.tips k
theorem lenOK_iff {a : GpA} {x : PX} {X : GX} (hp : PH a.p x) (hX : GH a.g X) : lenOK a ↔ lenX X (a.p.ps x) := by
  have l1 := hp.p1.len
  have l2 := hp.p2.len
  have l3 := hp.p3.len
  have n1 := hX.ns
  have n2 := hX.nc
  unfold lenOK lenX
  dsimp only
  omega
theorem rollZ_iff {p : PA} {x : PX} : rollZ p ↔ zR (p.ps x) := Iff.rfl
theorem rollOK_iff {a : GpA} {x : PX} {X : GX} (hX : GH a.g X) : rollOK a.g.cells.l a.g.stakes.l a.p x ↔ okR X (a.p.ps x) := by
  rw [hX.ns, hX.nc]; exact Iff.rfl
theorem inX_iff {a : GpA} {x : PX} {X : GX} (hX : GH a.g X) (hl : a.p.s1.l = X.nc) : (inAll X.cells x.vars a.p.s1.l ∧ (rollZ a.p ∨ rollOK a.g.cells.l a.g.stakes.l a.p x)) ↔ inX X (a.p.ps x) := by
  rw [hl, rollOK_iff hX]; exact Iff.rfl
theorem okPos_iff {a : GpA} {x : PX} {X : GX} (hp : PH a.p x) (hX : GH a.g X) : okPos a x X.cells ↔ checkX X (a.p.ps x) = 0 := by
  unfold okPos checkX
  rw [lenOK_iff hp hX]
  by_cases h : lenX X (a.p.ps x)
  · have hl : a.p.s1.l = X.nc := by have := ((lenOK_iff hp hX).2 h).1; rw [← hX.nc]; exact this
    rw [inX_iff hX hl, if_pos h]
    by_cases h2 : inX X (a.p.ps x)
    · rw [if_pos h2]; exact ⟨fun _ => rfl, fun _ => ⟨h, h2⟩⟩
    · rw [if_neg h2]; exact ⟨fun q => absurd q.2 h2, fun q => absurd q (by decide)⟩
  · rw [if_neg h]; exact ⟨fun q => absurd q.1 h, fun q => absurd q (by decide)⟩
theorem turnX_eq {a : GpA} {x : PX} {X : GX} (hg : GOk a.g) (hp : PH a.p x) (hX : GH a.g X) : turnC a x X.cells X.w1 = turnX X (a.p.ps x) := by
  unfold turnX
  by_cases h : okPos a x X.cells
  · have h0 := (okPos_iff hp hX).1 h
    rw [if_neg (not_not_intro h0)]
    by_cases hz : rollZ a.p
    · rw [if_neg (not_not_intro (rollZ_iff.1 hz))]
      have hl : (a.p.s1.l : Int) = a.g.code.cells := by rw [h.1.1]; exact hg.nc
      have hn : (a.g.code.cells + 4).toNat = X.nc + 4 := by have := hg.nc; have := hX.nc; omega
      have e2 : ∀ n, ((0 ≤ n ∧ n < (a.g.stakes.l : Int)) ∧ x.gone.getD n.toNat false = false → seatX X (a.p.ps x) n = n) ∧ (¬ ((0 ≤ n ∧ n < (a.g.stakes.l : Int)) ∧ x.gone.getD n.toNat false = false) → seatX X (a.p.ps x) n = -1) := fun n => by
        rw [hX.ns]
        exact ⟨fun q => if_pos q, fun q => if_neg q⟩
      rw [← hX.m1]
      by_cases h1 : (lastC x.vars z49 X.w1 a.g.code.m1).halt = 1
      · rw [if_pos h1]
        have T := t_seat (ws := X.w1) h hz hl (Or.inl ⟨h1, rfl⟩)
        rw [hn] at T
        by_cases hs : (0 ≤ ((lastC x.vars z49 X.w1 a.g.code.m1).mem.getD (X.nc + 4) 0) ∧ ((lastC x.vars z49 X.w1 a.g.code.m1).mem.getD (X.nc + 4) 0) < (a.g.stakes.l : Int)) ∧ x.gone.getD ((lastC x.vars z49 X.w1 a.g.code.m1).mem.getD (X.nc + 4) 0).toNat false = false
        · rw [T.1 hs, (e2 _).1 hs]
        · rw [T.2 hs, (e2 _).2 hs]
      · rw [if_neg h1]
        by_cases h2 : (lastC x.vars z49 X.w1 a.g.code.m1).halt = 2
        · rw [if_pos h2]
          have T := t_seat (ws := X.w1) (n := 0) h hz hl (Or.inr ⟨h2, rfl⟩)
          by_cases hs : (0 ≤ (0 : Int) ∧ (0 : Int) < (a.g.stakes.l : Int)) ∧ x.gone.getD (0 : Int).toNat false = false
          · rw [T.1 hs, (e2 _).1 hs]
          · rw [T.2 hs, (e2 _).2 hs]
        · rw [if_neg h2]
          exact t_err h hz hl ⟨h1, h2⟩
    · rw [if_pos (fun q => hz (rollZ_iff.2 q))]
      exact t_roll h hz
  · rw [if_pos (fun q => h ((okPos_iff hp hX).2 q))]
    exact t_bad h
end Go.Proofs.YtdjnipabfbblnaaGreatDoor
end

/- A game's rules: behind, pass (what is to be shown). -/
section
set_option maxRecDepth 100000
namespace Go.Proofs.YtdjnipabfbblnaaGreatDoor
open Go.Ev
-- keep cdP cdF gmF PH GH GOk behX goB pasX goP sideX passX num foldI dnum frm lastC rollZ rollOK inAll Go.Ev.Sli Go.Ev.HV insAt argP rightP hasC farC stepC okAt twoC truthC W32 runC storeC manyC cells4
structure BhA where
  g : GmA
  p : PA
  s : Int
set_option linter.unusedSectionVars false
variable [Go.Ev.Frozen Tryz.prog]
noncomputable section
def S_beh : SpecD where
  f := 89
  α := BhA
  args a := [.pointer (some ⟨13, 0, none⟩), a.p.v (13 + 11), tgI .i64 a.s]
  R a := gmR a.g 13 ++ a.p.R (13 + 11) 50
  n := 13 + 14
  pre a := gmF a.g ∧ (∃ x, PH a.p x) ∧ (0 ≤ a.s ∧ a.s < a.g.stakes.l) ∧ a.g.stakes.l ≤ 8 ∧ a.p.s2.l = a.g.stakes.l
  outs := [⟨KI, fun a b => ∀ x, PH a.p x → b.k = (behX x.gone a.g.stakes.l a.s.toNat : Int), fun _ b => tgI .i64 b.k, fun _ _ => [], fun _ _ => 13 + 15, fun _ _ => []⟩]
  pick _ _ := 0
  find l A := gmK A 13 (lv l 0) fun g q => paK A (13 + 11) (agv (lv l 1)) fun p r => wI (lv l 2) fun s => some (⟨g, p, s⟩, q ++ r)
def la_beh (a : BhA) (x : PX) : LA where
  α := KI
  at_ e := ⟨[(0, .pointer (some ⟨13, 0, none⟩)), (2, tgI .i64 a.s), (4, .pointer (some ⟨13 + 14, 0, none⟩)), (7, tgI .i64 (((a.s.toNat + e.k.toNat) % a.g.stakes.l : Nat) : Int))],
    (13 + 14, .p (.row (a.p.s1.v (13 + 11) :: a.p.s2.v (13 + 12) :: a.p.s3.v (13 + 13) :: rolls a.p) 29 .own)) :: (gmR a.g 13 ++ a.p.R (13 + 11) 50), 13 + 15⟩
  J e := (1 ≤ e.k ∧ e.k ≤ a.g.stakes.l) ∧ goB x.gone a.g.stakes.l a.s.toNat (a.g.stakes.l + 1 - e.k.toNat) e.k.toNat = behX x.gone a.g.stakes.l a.s.toNat
  μ e := a.g.stakes.l - e.k.toNat
  ren s := renP (13 + 14) (tv s 4)
def G_beh (a : BhA) (x : PX) : Prop := fnW Tryz.prog E0 (cwN (fun c => cwD Tryz.prog S_seats c) 3) [some (la_beh a x)] S_beh.f (S_beh.args a) (mem (S_beh.R a) S_beh.n) (endD Tryz.prog S_beh a)
abbrev posB (p : PA) (i : Nat) : Nat × PO := (i, .p (.row (mnS (i + 1) p.s1.n 0 p.s1.l p.s1.k :: p.s2.v (i + 2) :: p.s3.v (i + 3) :: rolls p) 29 .own))
abbrev posR (p : PA) (i : Nat) : List (Nat × PO) := [posB p i, (i + 1, .f p.s1.c 21 (.grown p.s1.k)), (i + 2, .f p.s2.c 4 .gro), (i + 3, .f p.s3.c 50 .gro)]
abbrev passP (a : BhA) : Prop := (gmF a.g ∧ (∃ x, PH a.p x) ∧ ∃ X, GH a.g X) ∧ (0 ≤ a.s ∧ a.s < a.g.stakes.l) ∧ a.g.stakes.l ≤ 8 ∧ (a.p.s1.l = a.g.cells.l ∧ a.p.s2.l = a.g.stakes.l ∧ a.p.s1.o = 0) ∧ (0 ≤ a.p.r0 ∧ a.p.r0 < a.g.cells.l) ∧ (2 ≤ a.p.r1 ∧ a.p.r1 ≤ 1000) ∧ (0 ≤ a.p.r2 ∧ a.p.r2 < a.g.stakes.l) ∧ (0 ≤ a.p.r4 ∧ a.p.r4 < 18446744073709551616) ∧ a.g.cells.l ≤ 1000
structure PaO where
  c : List Value
  r0 : Int
  r1 : Int
  r2 : Int
  r3 : Int
  r4 : Int
abbrev PaO.pa (b : PaO) (p : PA) : PA := ⟨⟨p.s1.n, 0, p.s1.l, p.s1.k, b.c⟩, p.s2, p.s3, b.r0, b.r1, b.r2, b.r3, b.r4⟩
def S_pass : SpecD where
  f := 49
  α := BhA
  args a := [.pointer (some ⟨13, 0, none⟩), .pointer (some ⟨13 + 11, 0, none⟩), tgI .i64 a.s]
  R a := gmR a.g 13 ++ posR a.p (13 + 11)
  n := 13 + 15
  pre a := passP a
  outs := [⟨PaO, fun a b => ∀ x X, PH a.p x → GH a.g X → ∃ y, PH (b.pa a.p) y ∧ (b.pa a.p).ps y = passX X (a.p.ps x) a.s.toNat, fun _ _ => .tuple ⟨[]⟩, fun a b => posR (b.pa a.p) (13 + 11), fun _ _ => 13 + 15, fun _ _ => []⟩]
  pick _ _ := 0
  find l A := gmK A 13 (lv l 0) fun g q => ptK (lv l 1) fun b => rowK A b fun r => paK A (13 + 12) r fun p t => wI (lv l 2) fun s => some (⟨g, p, s⟩, (13 + 11, b) :: (q ++ t))
def la_pass (a : BhA) (x : PX) : LA where
  α := KI
  at_ e := ⟨[(0, .pointer (some ⟨13, 0, none⟩)), (1, .pointer (some ⟨13 + 11, 0, none⟩)), (6, tgI .i64 (((a.s.toNat + e.k.toNat) % a.g.stakes.l : Nat) : Int))], S_pass.R a, 13 + 15⟩
  J e := (0 ≤ e.k ∧ e.k ≤ a.g.stakes.l) ∧ goP x.gone a.g.stakes.l a.p.r2.toNat a.s.toNat (a.g.stakes.l - e.k.toNat) e.k.toNat = pasX x.gone a.g.stakes.l a.p.r2.toNat a.s.toNat ∧ ∀ i, i < e.k.toNat → (a.s.toNat + i) % a.g.stakes.l ≠ a.p.r2.toNat
  μ e := a.g.stakes.l - e.k.toNat
  ren s := []
def G_pass (a : BhA) (x : PX) : Prop := fnW Tryz.prog E0 (cwN (fun c => cwD Tryz.prog S_seats c) 3) [some (la_pass a x)] S_pass.f (S_pass.args a) (mem (S_pass.R a) S_pass.n) (endD Tryz.prog S_pass a)
end
end Go.Proofs.YtdjnipabfbblnaaGreatDoor
end

/- A game's rules: behind, pass are what is told of them. -/
section
set_option maxRecDepth 100000
-- eta
namespace Go.Proofs.YtdjnipabfbblnaaGreatDoor
open Go.Ev
set_option linter.unusedSectionVars false
variable [Go.Ev.Frozen Tryz.prog]
noncomputable section
def W_G_pass_0 : BhA → PX → KI → Option Nat := fun (a : BhA) (x : PX) (x0 : KI) => goP x.2 a.1.1.3 (Int.toNat a.2.6) (Int.toNat a.3) (a.1.1.3 - Int.toNat x0.1) (Int.toNat x0.1)
def W_G_pass_1 : BhA → PX → Option Nat := fun (a : BhA) (x : PX) => pasX x.2 a.1.1.3 (Int.toNat a.2.6) (Int.toNat a.3)
end
abbrev QYgbP_1 (a0 : CdA) : Prop := True ∧ a0.1 = a0.1 ∧ a0.2 = a0.2 ∧ Z4 a0.3 ∧ Z4 a0.4 ∧ Z4 a0.5 ∧ Z4 a0.6 ∧ Z4 a0.7 ∧ Z4 a0.8 ∧ Z4 a0.9 ∧ a0.10 = a0.10 ∧ a0.11 = a0.11 ∧ a0.12 =
 a0.12 ∧ a0.13 = a0.13 ∧ a0.14 = a0.14 ∧ True
abbrev QYgbP_2 (a0 : GmA) : Prop := True ∧ True ∧ Z4 a0.1 ∧ True ∧ True ∧ True ∧ True ∧ True ∧ True ∧ True ∧ True ∧ 0 = 0 ∧ True ∧ Z4 a0.2 ∧ True
abbrev QYgbP_3 (a0 : BhA) : Prop := (QYgbP_2 a0.1 ∧ ZF a0.1.1.5 ∧ ZF a0.1.2.5 ∧ QYgbP_1 a0.1.3 ∧ ZF a0.1.3.3.5 ∧ ZF a0.1.3.4.5 ∧ ZF a0.1.3.5.5 ∧ ZF a0.1.3.6.5 ∧ ZF a0.1.3.7.5 ∧ ZF
 a0.1.3.8.5 ∧ ZF a0.1.3.9.5 ∧ (True ∧ (a0.2.1.1 = a0.2.1.1 ∧ 0 = 0 ∧ a0.2.1.3 = a0.2.1.3 ∧ a0.2.1.4 = a0.2.1.4) ∧ Z4 a0.2.2 ∧ Z4 a0.2.3 ∧ ZR a0.2) ∧ (a0.2.1.4 = a0.2.1.4 ∧ FlatL
 a0.2.1.5 ∧ a0.2.1.5 = a0.2.1.5) ∧ ZF a0.2.2.5 ∧ ZF a0.2.3.5 ∧ True) ∧ True
abbrev QYgbP_4 (a0 : BhA) (a1 : Int) (a2 : Int) : Prop := (0 = 0 ∧ a0.3 = a0.3 ∧ 0 = 0 ∧ (↑ ((Int.toNat a0.3 + Int.toNat a1) % a0.1.1.3) : Int) = a2 ∧ True) ∧ ((True ∧ Z4 a0.2.1 ∧
 Z4 a0.2.2 ∧ Z4 a0.2.3 ∧ ZR a0.2) ∧ QYgbP_2 a0.1 ∧ ZF a0.1.1.5 ∧ ZF a0.1.2.5 ∧ QYgbP_1 a0.1.3 ∧ ZF a0.1.3.3.5 ∧ ZF a0.1.3.4.5 ∧ ZF a0.1.3.5.5 ∧ ZF a0.1.3.6.5 ∧ ZF a0.1.3.7.5 ∧ ZF
 a0.1.3.8.5 ∧ ZF a0.1.3.9.5 ∧ ZF a0.2.1.5 ∧ ZF a0.2.2.5 ∧ ZF a0.2.3.5 ∧ True) ∧ True
abbrev QYgbP_5 (a0 : GmA) : Prop := (0 = 0 ∧ True) ∧ QYgbP_2 a0 ∧ ZF a0.1.5 ∧ ZF a0.2.5 ∧ QYgbP_1 a0.3 ∧ ZF a0.3.3.5 ∧ ZF a0.3.4.5 ∧ ZF a0.3.5.5 ∧ ZF a0.3.6.5 ∧ ZF a0.3.7.5 ∧ ZF
 a0.3.8.5 ∧ ZF a0.3.9.5 ∧ True
abbrev QYgbP_6 (a0 : KI) (a1 : BhA) (a2 : PX) : Prop := (0 ≤ a0.1 ∧ a0.1 ≤ (↑a1.1.1.3 : Int)) ∧ W_G_pass_0 a1 a2 a0 = W_G_pass_1 a1 a2 ∧ ∀ (b0 : Nat), b0 < Int.toNat a0.1 →
 (Int.toNat a1.3 + b0) % a1.1.1.3 ≠ Int.toNat a1.2.6
abbrev QYgbP_7 (a0 : BhA) (a1 : PaO) : Prop := ∀ (b0 : PX) (b1 : GX), PH a0.2 b0 → GH a0.1 b1 → ∃ (b2 : PX), PH (PA.mk (SA.mk a0.2.1.1 0 a0.2.1.3 a0.2.1.4 a1.1) a0.2.2 a0.2.3 a1.2
 a1.3 a1.4 a1.5 a1.6) b2 ∧ PsX.mk b2 a1.2 a1.3 a1.4 a1.5 a1.6 = passX b1 (PsX.mk b0 a0.2.4 a0.2.5 a0.2.6 a0.2.7 a0.2.8) (Int.toNat a0.3)
abbrev QYgbP_8 (a0 : Int) (a1 : BhA) (a2 : List Bool) : Prop := (1 ≤ a0 ∧ a0 ≤ (↑a1.1.1.3 : Int)) ∧ goB a2 a1.1.1.3 (Int.toNat a1.3) (a1.1.1.3 + 1 - Int.toNat a0) (Int.toNat a0) =
 behX a2 a1.1.1.3 (Int.toNat a1.3)
abbrev QYgbP_9 (a0 : BhA) (a1 : Int) : Prop := ∃ (b0 : KI), (∀ (b1 : PX), PH a0.2 b1 → b0.1 = (↑ (behX b1.2 a0.1.1.3 (Int.toNat a0.3)) : Int)) ∧ b0.1 = (↑ ((Int.toNat a0.3 +
 Int.toNat a1) % a0.1.1.3) : Int) ∧ True
abbrev QYgbP_10 : Prop := True ∧ True ∧ True ∧ True ∧ True ∧ True ∧ True ∧ True ∧ True ∧ True ∧ True ∧ True ∧ True ∧ True ∧ True ∧ True
theorem vc_beh (a : BhA) (x : PX) : G_beh a x = (∀ (x0 : Int), x0 = IntKind.wrap .i64 (a.3 + (1 : Int)) → (True ∧ FlatL a.1.1.5 ∧ FlatL a.1.2.5 ∧ cdF a.1.3) ∧ QYgbP_5 a.1 ∧ (∀ (_ : Unit), True → (↑a.1.1.3 : Int) ≠ (0 : Int) ∧ ∀
(x2 : Int), x2 = Int.tmod x0 (↑a.1.1.3 : Int) → ∃ (x3 : KI), QYgbP_8 x3.1 a x.2 ∧ QYgbP_4 a x3.1 x2 ∧ ∀ (x4 : KI), QYgbP_8 x4.1 a x.2 → ((↑ ((Int.toNat a.3 + Int.toNat x4.1) %
a.1.1.3) : Int) ≠ a.3 → ((0 : Int) ≤ (↑ ((Int.toNat a.3 + Int.toNat x4.1) % a.1.1.3) : Int) ∧ (↑ ((Int.toNat a.3 + Int.toNat x4.1) % a.1.1.3) : Int) < (↑a.2.2.3 : Int)) ∧ (∀ (x5 :
Nat), x5 = a.2.2.2 + Int.toNat (↑ ((Int.toNat a.3 + Int.toNat x4.1) % a.1.1.3) : Int) * 1 → ∃ (x6 : Bool), Rd a.2.2.5 (Nat.add x5 0) (Value.bool x6) ∧ (x6 = true → (∀ (x7 : Int),
x7 = IntKind.wrap .i64 ((↑ ((Int.toNat a.3 + Int.toNat x4.1) % a.1.1.3) : Int) + (1 : Int)) → (True ∧ FlatL a.1.1.5 ∧ FlatL a.1.2.5 ∧ cdF a.1.3) ∧ QYgbP_5 a.1 ∧ (∀ (_ : Unit), True
→ (↑a.1.1.3 : Int) ≠ (0 : Int) ∧ ∀ (x9 : Int), x9 = Int.tmod x7 (↑a.1.1.3 : Int) → ∃ (x10 : KI), QYgbP_8 x10.1 a x.2 ∧ a.1.1.3 - Int.toNat x10.1 < a.1.1.3 - Int.toNat x4.1 ∧
QYgbP_4 a x10.1 x9) ∧ True)) ∧ (x6 = false → QYgbP_9 a x4.1))) ∧ (¬((↑ ((Int.toNat a.3 + Int.toNat x4.1) % a.1.1.3) : Int) ≠ a.3) → QYgbP_9 a x4.1)) ∧ True) := by kernel_rfl
set_option maxHeartbeats 3200000 in
theorem vc_pass (a : BhA) (x : PX) : G_pass a x = (∃ (x0 : KI), QYgbP_6 x0 a x ∧ ((0 = 0 ∧ 0 = 0 ∧ (↑ ((Int.toNat a.3 + Int.toNat x0.1) % a.1.1.3) : Int) = a.3 ∧ True) ∧ QYgbP_3 a) ∧ ∀ (x2 : KI), QYgbP_6 x2 a x → ((↑ ((Int.toNat
a.3 + Int.toNat x2.1) % a.1.1.3) : Int) ≠ a.2.6 → (∀ (x4 : Int), x4 = IntKind.wrap .i64 ((↑ ((Int.toNat a.3 + Int.toNat x2.1) % a.1.1.3) : Int) + (1 : Int)) → (True ∧ FlatL a.1.1.5
∧ FlatL a.1.2.5 ∧ cdF a.1.3) ∧ QYgbP_5 a.1 ∧ (∀ (_ : Unit), True → (↑a.1.1.3 : Int) ≠ (0 : Int) ∧ ∀ (x6 : Int), x6 = Int.tmod x4 (↑a.1.1.3 : Int) → ((0 : Int) ≤ x6 ∧ x6 < (↑a.2.2.3
: Int)) ∧ ∀ (x7 : Nat), x7 = a.2.2.2 + Int.toNat x6 * 1 → ∃ (x8 : Bool), Rd a.2.2.5 (Nat.add x7 0) (Value.bool x8) ∧ (x8 = true → (∃ (x9 : KI), QYgbP_6 x9 a x ∧ a.1.1.3 - Int.toNat
x9.1 < a.1.1.3 - Int.toNat x2.1 ∧ (0 = 0 ∧ 0 = 0 ∧ (↑ ((Int.toNat a.3 + Int.toNat x9.1) % a.1.1.3) : Int) = x6 ∧ True) ∧ QYgbP_3 a)) ∧ (x8 = false → ∃ (x11 : PaO), QYgbP_7 a x11 ∧
True ∧ (True ∧ (a.2.1.1 = a.2.1.1 ∧ 0 = 0 ∧ a.2.1.3 = a.2.1.3 ∧ a.2.1.4 = a.2.1.4) ∧ Z4 a.2.2 ∧ Z4 a.2.3 ∧ x11.2 = a.2.4 ∧ x11.3 = a.2.5 ∧ x11.4 = a.2.6 ∧ x11.5 = x6 ∧ x11.6 =
a.2.8 ∧ True) ∧ (a.2.1.4 = a.2.1.4 ∧ FlatL x11.1 ∧ x11.1 = a.2.1.5) ∧ ZF a.2.2.5 ∧ ZF a.2.3.5 ∧ True)) ∧ True)) ∧ (¬((↑ ((Int.toNat a.3 + Int.toNat x2.1) % a.1.1.3) : Int) ≠ a.2.6)
→ ∀ (x15 : Int), x15 = IntKind.wrap .u64 a.2.5 → x15 ≠ (0 : Int) ∧ ∀ (x16 : Int), x16 = Int.tmod a.2.8 x15 → ∀ (x17 : Int), x17 = IntKind.wrap .u64 ((1 : Int) + x16) → ∀ (x18 :
Int), x18 = IntKind.wrap .i32 x17 → QYgbP_10 ∧ (0 ≤ a.2.4 ∧ a.2.4 < (↑a.1.2.3 : Int)) ∧ ∀ (x19 : Nat), x19 = a.1.2.2 + Int.toNat a.2.4 * 2 → ∃ (x20 : Int), Rd a.1.2.5 (Nat.add x19
0) (Value.int IntKind.i32 x20) ∧ ∃ (x21 : Int), Rd a.1.2.5 (Nat.add x19 1) (Value.int IntKind.i32 x21) ∧ (True ∧ True ∧ True ∧ True ∧ True ∧ True ∧ True ∧ True ∧ True ∧ True ∧ True
∧ (True ∧ True) ∧ True ∧ True) ∧ ∀ (x22 : Int), x22 = Max.max x18 x20 → ∀ (x23 : Int), x23 = Min.min x22 x21 → (0 ≤ a.2.4 ∧ a.2.4 < (↑a.2.1.3 : Int)) ∧ ∀ (x24 : Nat), x24 = 0 +
Int.toNat a.2.4 * 1 → x24 + 1 ≤ List.length a.2.1.5 ∧ ∀ (x25 : List Value), x25 = lput a.2.1.5 x24 [Value.iface 1000000007 (Value.int IntKind.i32 x23)] → (True ∧ True ∧ True ∧
QYgbP_10) ∧ ∃ (x26 : PaO), QYgbP_7 a x26 ∧ True ∧ (True ∧ (a.2.1.1 = a.2.1.1 ∧ 0 = 0 ∧ a.2.1.3 = a.2.1.3 ∧ a.2.1.4 = a.2.1.4) ∧ Z4 a.2.2 ∧ Z4 a.2.3 ∧ x26.2 = 0 ∧ x26.3 = 0 ∧ x26.4
= 0 ∧ x26.5 = 0 ∧ x26.6 = 0 ∧ True) ∧ (a.2.1.4 = a.2.1.4 ∧ FlatL x26.1 ∧ x26.1 = x25) ∧ ZF a.2.2.5 ∧ ZF a.2.3.5 ∧ True)) := by kernel_rfl
theorem nextI {n m : Nat} (hn : 0 < n) (h8 : n ≤ 8) {z : Int} (hz : z = IntKind.wrap .i64 (((m % n : Nat) : Int) + 1)) : Int.tmod z (n : Int) = (((m + 1) % n : Nat) : Int) := by
  have hm := Nat.mod_lt m hn
  rw [wrap_sm (by omega)] at hz
  have : z = ((m % n + 1 : Nat) : Int) := by omega
  rw [this, ← Int.ofNat_tmod, Nat.mod_add_mod]
theorem roundS {n s : Nat} : (s + n) % n = s % n := Nat.add_mod_right s n
theorem goB_go {g : List Bool} {n s f j : Nat} (h1 : (s + j) % n ≠ s) (h2 : g.getD ((s + j) % n) false = true) : goB g n s (f + 1) j = goB g n s f (j + 1) := by show (if _ then _ else _) = _; rw [if_pos ⟨h1, h2⟩]
theorem goB_at {g : List Bool} {n s f j : Nat} (h : ¬ ((s + j) % n ≠ s ∧ g.getD ((s + j) % n) false = true)) : goB g n s (f + 1) j = (s + j) % n := by show (if _ then _ else _) = _; rw [if_neg h]
theorem g_beh (a : BhA) (x : PX) (hg : gmF a.g) (hp : PH a.p x) (hs : 0 ≤ a.s ∧ a.s < a.g.stakes.l) (h8 : a.g.stakes.l ≤ 8) (hl : a.p.s2.l = a.g.stakes.l) : G_beh a x := by
  have hg0 := hg
  obtain ⟨g1, g2, gc⟩ := hg
  obtain ⟨f1, f2, f3, f4, f5, f6, f7⟩ := gc
  have p1 := hp.p1.flat
  have p2 := hp.p2.flat
  have p3 := hp.p3.flat
  obtain ⟨s, hse⟩ : ∃ s : Nat, a.s = s := ⟨a.s.toNat, by omega⟩
  have hst : a.s.toNat = s := by omega
  have hs1 : s < a.g.stakes.l := by omega
  have hn0 : 0 < a.g.stakes.l := by omega
  have a3 : a.3 = a.s := rfl
  have a113 : a.1.1.3 = a.g.stakes.l := rfl
  have a223 : a.2.2.3 = a.p.s2.l := rfl
  rw [vc_beh]
  delta QYgbP_1 QYgbP_2 QYgbP_3 QYgbP_4 QYgbP_5 QYgbP_6 QYgbP_7 QYgbP_8 QYgbP_9 QYgbP_10
  intro x0 e0
  have hsm : s % a.g.stakes.l = s := Nat.mod_eq_of_lt hs1
  refine ⟨⟨trivial, hg0⟩, by repeat' first | with_reducible apply And.intro | exact trivial | exact rfl | assumption, fun _ _ => ⟨by rw [a113]; omega, fun x2 e2 => ?_⟩, trivial⟩
  have hsl : (((a.s.toNat + (1 : Int).toNat) % a.g.stakes.l : Nat) : Int) = x2 := by rw [e2, hst]; exact (nextI (m := s) hn0 h8 (by rw [e0, a3, hse, hsm])).symm
  have h1n : (1 : Int) ≤ (a.g.stakes.l : Int) := by omega
  refine ⟨⟨1⟩, ⟨⟨Int.le_refl 1, h1n⟩, rfl⟩, by repeat' first | with_reducible apply And.intro | exact trivial | exact rfl | assumption, ?_⟩
  · rintro ⟨k⟩ ⟨⟨hk1, hkn⟩, hJ⟩
    obtain ⟨j, rfl⟩ : ∃ j : Nat, k = j := ⟨k.toNat, by dsimp only at hk1; omega⟩
    dsimp only at hk1 hkn hJ ⊢
    rw [a113] at hkn hJ ⊢
    rw [a3, hst, Int.toNat_natCast] at hJ ⊢
    have hfu : a.g.stakes.l + 1 - j = (a.g.stakes.l - j) + 1 := by omega
    rw [hfu] at hJ
    have END : behX x.gone a.g.stakes.l s = (s + j) % a.g.stakes.l → ∃ z : KI, (∀ y : PX, PH a.p y → z.k = (behX y.gone a.g.stakes.l s : Int)) ∧ z.k = (((s + j) % a.g.stakes.l : Nat) : Int) ∧ True := fun h => ⟨⟨_⟩, fun y hy => by rw [PH.uniq hy hp, h], rfl, trivial⟩
    refine ⟨fun hne => ⟨⟨Int.natCast_nonneg _, by rw [a223, hl]; exact Int.ofNat_lt.2 (Nat.mod_lt _ hn0)⟩, fun x5 e5 => ⟨x.gone.getD ((s + j) % a.g.stakes.l) false, goneRd hp (by rw [hl]; exact Nat.mod_lt _ hn0) (by rw [e5, Int.toNat_natCast]; clear END; show _ = _; omega), fun hb x7 e7 => ⟨⟨trivial, hg0⟩, by repeat' first | with_reducible apply And.intro | exact trivial | exact rfl | assumption, fun _ _ => ⟨by clear END; omega, fun x9 e9 => ?_⟩, trivial⟩, fun hb => END ?_⟩⟩, fun he => END ?_⟩
    · have hne' : (s + j) % a.g.stakes.l ≠ s := fun q => hne (by rw [q, hse])
      have hjn : j ≠ a.g.stakes.l := fun q => hne' (by rw [q, roundS, Nat.mod_eq_of_lt hs1])
      rw [goB_go hne' hb] at hJ
      have k1 : (1 : Int) ≤ ((j + 1 : Nat) : Int) := by clear END; omega
      have k2 : ((j + 1 : Nat) : Int) ≤ (a.g.stakes.l : Int) := by clear END; omega
      have k3 : goB x.gone a.g.stakes.l s (a.g.stakes.l + 1 - ((j + 1 : Nat) : Int).toNat) ((j + 1 : Nat) : Int).toNat = behX x.gone a.g.stakes.l s := by
        rw [Int.toNat_natCast, show a.g.stakes.l + 1 - (j + 1) = a.g.stakes.l - j by clear END; omega]; exact hJ
      have k4 : a.g.stakes.l - ((j + 1 : Nat) : Int).toNat < a.g.stakes.l - j := by rw [Int.toNat_natCast]; clear END; omega
      have k5 : (((s + ((j + 1 : Nat) : Int).toNat) % a.g.stakes.l : Nat) : Int) = x9 := by
        rw [Int.toNat_natCast, e9]
        exact (nextI hn0 h8 e7).symm
      exact ⟨⟨((j + 1 : Nat) : Int)⟩, ⟨⟨k1, k2⟩, k3⟩, k4, by repeat' first | with_reducible apply And.intro | exact trivial | exact rfl | assumption⟩
    · rw [goB_at (fun q => by rw [q.2] at hb; cases hb)] at hJ; exact hJ.symm
    · rw [goB_at (fun q => he fun r => q.1 (by rw [hse] at r; exact Int.ofNat.inj r))] at hJ; exact hJ.symm
theorem s_beh : SpecOK Tryz.prog S_beh.spec := fun a K ⟨hg, ⟨x, hp⟩, hs, h8, hl⟩ hq => specD_at (an := [some (la_beh a x)]) envOK (cwN_ok (fun _ h => cwD_ok s_seats h) 3) (fun _ => g_beh a x hg hp hs h8 hl) K ⟨hg, ⟨x, hp⟩, hs, h8, hl⟩ hq
theorem goP_end {g : List Bool} {n m s f j : Nat} (h : (s + j) % n = m) : goP g n m s (f + 1) j = none := by show (if _ then _ else _) = _; rw [if_pos h]
theorem goP_go {g : List Bool} {n m s f j : Nat} (h : (s + j) % n ≠ m) (h2 : g.getD ((s + (j + 1)) % n) false = true) : goP g n m s (f + 1) j = goP g n m s f (j + 1) := by show (if _ then _ else if _ then _ else _) = _; rw [if_neg h, if_pos h2]
theorem goP_at {g : List Bool} {n m s f j : Nat} (h : (s + j) % n ≠ m) (h2 : g.getD ((s + (j + 1)) % n) false = false) : goP g n m s (f + 1) j = some ((s + (j + 1)) % n) := by show (if _ then _ else if _ then _ else _) = _; rw [if_neg h, if_neg (by rw [h2]; decide)]
theorem round_has {n s m : Nat} (hs : s < n) (hm : m < n) : ∃ i, i < n ∧ (s + i) % n = m := by
  by_cases h : s ≤ m
  · exact ⟨m - s, by omega, by rw [show s + (m - s) = m by omega, Nat.mod_eq_of_lt hm]⟩
  · exact ⟨m + n - s, by omega, by rw [show s + (m + n - s) = m + n by omega, Nat.add_mod_right, Nat.mod_eq_of_lt hm]⟩
theorem Sli.put1 {k : IntKind} {n : Bool} {l kk : Nat} {c : List Value} {xs : List Int} {z : Int} {i : Nat} (h : Sli (Value.int k) 1 n 0 l kk c xs) (hi : i < l) : Sli (Value.int k) 1 n 0 l kk (lput c i [tgI k z]) (xs.set i z) := by
  have hn : n = false := by
    cases hb : n with
    | false => rfl
    | true => have := (h.nil hb).1; omega
  have hfit := h.fit hn
  have hlen := h.len
  have hci : i < c.length := by omega
  have hl : (lput c i [tgI k z]).length = c.length := by simp [lput]; omega
  refine ⟨fun j x hx => ?_, by rw [List.length_set]; exact h.len, h.nil, fun q => by rw [hl]; exact h.fit q, h.cap, fun v hv => ?_⟩
  · rw [Nat.zero_add]
    unfold Rd lput
    by_cases e : j = i
    · subst e
      rw [List.getElem?_set_self (by omega)] at hx
      cases hx
      right
      rw [List.getElem?_append_right (by simp; omega)]
      simp [show j - min j c.length = 0 by omega]
      rfl
    · rw [List.getElem?_set_ne (by omega)] at hx
      have := h.at_ j x hx
      rw [Nat.zero_add] at this
      unfold Rd at this
      by_cases hj : j < i
      · rw [List.getElem?_append_left (by simp; omega), List.getElem?_take_of_lt hj]; exact this
      · rw [List.getElem?_append_right (by simp; omega)]
        have e1 : j - (List.take i c).length = (j - i - 1) + 1 := by simp; omega
        rw [e1, List.singleton_append, List.getElem?_cons_succ, List.getElem?_drop]
        have e2 : i + [tgI k z].length + (j - i - 1) = j := by simp; omega
        rw [e2]; exact this
  · unfold lput at hv
    rcases List.mem_append.1 hv with hv | hv
    · exact h.flat v (List.mem_of_mem_take hv)
    · rcases List.mem_append.1 hv with hv | hv
      · rw [List.mem_singleton.1 hv]; exact ftag_tgI k z
      · exact h.flat v (List.mem_of_mem_drop hv)
theorem g_pass (a : BhA) (x : PX) (X : GX) (hg : gmF a.g) (hp : PH a.p x) (hX : GH a.g X) (hP : passP a) : G_pass a x := by
  obtain ⟨-, hs, h8, ⟨hl1, hl2, ho⟩, hr0, hr1, hr2, hr4, hcl⟩ := hP
  have hg0 := hg
  obtain ⟨g1, g2, gc⟩ := hg
  obtain ⟨f1, f2, f3, f4, f5, f6, f7⟩ := gc
  have p1 := hp.p1.flat
  have p2 := hp.p2.flat
  have p3 := hp.p3.flat
  obtain ⟨s, hse⟩ : ∃ s : Nat, a.s = s := ⟨a.s.toNat, by omega⟩
  obtain ⟨m, hme⟩ : ∃ m : Nat, a.p.r2 = m := ⟨a.p.r2.toNat, by omega⟩
  have hst : a.s.toNat = s := by omega
  have hmt : a.p.r2.toNat = m := by omega
  have hs1 : s < a.g.stakes.l := by omega
  have hm1 : m < a.g.stakes.l := by omega
  have hn0 : 0 < a.g.stakes.l := by omega
  have a3 : a.3 = a.s := rfl
  have a26 : a.2.6 = a.p.r2 := rfl
  have a113 : a.1.1.3 = a.g.stakes.l := rfl
  have a223 : a.2.2.3 = a.p.s2.l := rfl
  have hns : a.g.stakes.l = X.ns := hX.ns
  have PASS : ∀ (b : PaO), (∃ y, PH (b.pa a.p) y ∧ (b.pa a.p).ps y = passX X (a.p.ps x) s) → ∀ (y : PX) (Y : GX), PH a.p y → GH a.g Y → ∃ z, PH (b.pa a.p) z ∧ (b.pa a.p).ps z = passX Y (a.p.ps y) s := fun b h y Y hy hY => by rw [PH.uniq hy hp, GH.uniq hY hX]; exact h
  rw [vc_pass]
  delta QYgbP_1 QYgbP_2 QYgbP_3 QYgbP_4 QYgbP_5 QYgbP_6 QYgbP_7 QYgbP_8 QYgbP_9 QYgbP_10
  have hsl : (((a.s.toNat + (0 : Int).toNat) % a.g.stakes.l : Nat) : Int) = a.s := by
    rw [hst, hse]; show (((s + 0) % a.g.stakes.l : Nat) : Int) = _; rw [Nat.add_zero, Nat.mod_eq_of_lt hs1]
  refine ⟨⟨0⟩, ⟨⟨Int.le_refl 0, Int.natCast_nonneg _⟩, rfl, fun i hi => absurd hi (Nat.not_lt_zero _)⟩, by repeat' first | with_reducible apply And.intro | exact trivial | exact rfl | assumption, ?_⟩
  · rintro ⟨k⟩ ⟨⟨hk0, hkn⟩, hJ, hno⟩
    obtain ⟨j, rfl⟩ : ∃ j : Nat, k = j := ⟨k.toNat, by dsimp only at hk0; omega⟩
    have hJ : goP x.gone a.g.stakes.l a.p.r2.toNat a.s.toNat (a.g.stakes.l - (j : Int).toNat) (j : Int).toNat = pasX x.gone a.g.stakes.l a.p.r2.toNat a.s.toNat := hJ
    dsimp only at hk0 hkn hno ⊢
    rw [a113] at hkn hno ⊢
    rw [a3, a26, hst, hmt, Int.toNat_natCast] at hno
    rw [hst, hmt, Int.toNat_natCast] at hJ
    rw [a3, a26, hst, Int.toNat_natCast]
    have hjn : j < a.g.stakes.l := by
      rcases Nat.lt_or_ge j a.g.stakes.l with h | h
      · exact h
      · obtain ⟨i, hi, e⟩ := round_has hs1 hm1
        exact absurd e (hno i (by omega))
    obtain ⟨f, hf⟩ : ∃ f, a.g.stakes.l - j = f + 1 := ⟨a.g.stakes.l - j - 1, by omega⟩
    rw [hf] at hJ
    refine ⟨fun hne x4 e4 => ⟨⟨trivial, hg0⟩, by repeat' first | with_reducible apply And.intro | exact trivial | exact rfl | assumption, fun _ _ => ⟨by omega, fun x6 e6 => ?_⟩, trivial⟩, fun he => ?_⟩
    · have hne' : (s + j) % a.g.stakes.l ≠ m := fun q => hne (by rw [q, hme])
      have h6 : x6 = (((s + (j + 1)) % a.g.stakes.l : Nat) : Int) := e6.trans (nextI hn0 h8 e4)
      have hlt : (s + (j + 1)) % a.g.stakes.l < a.g.stakes.l := Nat.mod_lt _ hn0
      refine ⟨⟨by rw [h6]; exact Int.natCast_nonneg _, by rw [h6, a223, hl2]; exact Int.ofNat_lt.2 hlt⟩, fun x7 e7 => ⟨x.gone.getD ((s + (j + 1)) % a.g.stakes.l) false, goneRd hp (by rw [hl2]; exact hlt) (by rw [e7, h6, Int.toNat_natCast]; show _ = _; omega), fun hb => ?_, fun hb => ?_⟩⟩
      · rw [goP_go hne' hb] at hJ
        have k2 : ((j + 1 : Nat) : Int) ≤ (a.g.stakes.l : Int) := by omega
        have k3 : goP x.gone a.g.stakes.l a.p.r2.toNat a.s.toNat (a.g.stakes.l - ((j + 1 : Nat) : Int).toNat) ((j + 1 : Nat) : Int).toNat = pasX x.gone a.g.stakes.l a.p.r2.toNat a.s.toNat := by
          rw [hst, hmt, Int.toNat_natCast, show a.g.stakes.l - (j + 1) = f by omega]; exact hJ
        have k0 : ∀ i, i < ((j + 1 : Nat) : Int).toNat → (s + i) % a.g.stakes.l ≠ a.p.r2.toNat := fun i hi => by
          rw [Int.toNat_natCast] at hi
          rw [hmt]
          by_cases e : i = j
          · rw [e]; exact hne'
          · exact hno i (by omega)
        have k4 : a.g.stakes.l - ((j + 1 : Nat) : Int).toNat < a.g.stakes.l - j := by rw [Int.toNat_natCast]; omega
        have k5 : (((s + ((j + 1 : Nat) : Int).toNat) % a.g.stakes.l : Nat) : Int) = x6 := by rw [Int.toNat_natCast, h6]
        exact ⟨⟨((j + 1 : Nat) : Int)⟩, ⟨⟨Int.natCast_nonneg _, k2⟩, k3, k0⟩, k4, by repeat' first | with_reducible apply And.intro | exact trivial | exact rfl | assumption⟩
      · rw [goP_at hne' hb] at hJ
        refine ⟨⟨a.p.s1.c, a.p.r0, a.p.r1, a.p.r2, x6, a.p.r4⟩, PASS _ ⟨x, ?_, ?_⟩, by repeat' first | with_reducible apply And.intro | exact trivial | exact rfl | assumption⟩
        · have := hp
          obtain ⟨q1, q2, q3⟩ := hp
          rw [ho] at q1
          exact ⟨q1, q2, q3⟩
        · show (⟨x, a.p.r0, a.p.r1, a.p.r2, x6, a.p.r4⟩ : PsX) = passX X (a.p.ps x) s
          unfold passX
          show _ = (match pasX x.gone X.ns a.p.r2.toNat s with | some k => _ | none => _)
          rw [← hns, hmt, ← hJ, h6]
    · have he' : (s + j) % a.g.stakes.l = m := by have := Classical.not_not.1 he; rw [hme] at this; exact Int.ofNat.inj this
      rw [goP_end he'] at hJ
      intro x15 e15
      have a25 : a.2.5 = a.p.r1 := rfl
      have a24 : a.2.4 = a.p.r0 := rfl
      have a28 : a.2.8 = a.p.r4 := rfl
      have h15 : x15 = a.p.r1 := by rw [e15, a25, wrap_u64]; omega
      refine ⟨by omega, fun x16 e16 x17 e17 x18 e18 => ?_⟩
      have h16 : x16 = a.p.r4.tmod a.p.r1 := by rw [e16, a28, h15]
      have h16a : 0 ≤ a.p.r4.tmod a.p.r1 := Int.tmod_nonneg _ hr4.1
      have h16b : a.p.r4.tmod a.p.r1 < a.p.r1 := Int.tmod_lt_of_pos _ (by omega)
      have h17 : x17 = 1 + a.p.r4.tmod a.p.r1 := by rw [e17, h16, wrap_u64]; omega
      have h18 : x18 = 1 + a.p.r4.tmod a.p.r1 := by rw [e18, h17, wrap_i32]; omega
      obtain ⟨c, hce⟩ : ∃ c : Nat, a.p.r0 = c := ⟨a.p.r0.toNat, by omega⟩
      have hct : a.p.r0.toNat = c := by omega
      have hcn : c < a.g.cells.l := by omega
      refine ⟨by repeat' first | with_reducible apply And.intro | exact trivial | exact rfl | assumption, ⟨hr0.1, hr0.2⟩, fun x19 e19 => ⟨X.cells.getD (2 * c + 0) 0, celRd hX.cells hcn (by rw [e19, a24, hct]) rfl (by decide), X.cells.getD (2 * c + 1) 0, celRd hX.cells hcn (by rw [e19, a24, hct]) rfl (by decide), by repeat' first | with_reducible apply And.intro | exact trivial | exact rfl | assumption, fun x22 e22 x23 e23 => ⟨⟨hr0.1, by rw [a24]; show a.p.r0 < (a.p.s1.l : Int); omega⟩, fun x24 e24 => ?_⟩⟩⟩
      have h24 : x24 = c := by rw [e24, a24, hct]; omega
      have hp1 := hp.p1
      rw [ho] at hp1
      have hn1 : a.p.s1.n = false := by
        cases hb : a.p.s1.n with
        | false => rfl
        | true => have := (hp1.nil hb).1; omega
      have hfit := hp1.fit hn1
      have hS := Sli.put1 (z := x23) hp1 (show c < a.p.s1.l by omega)
      have hfl := hS.flat
      refine ⟨by show x24 + 1 ≤ a.p.s1.c.length; omega, fun x25 e25 => ⟨by repeat' first | with_reducible apply And.intro | exact trivial | exact rfl | assumption, ?_⟩⟩
      have h25 : x25 = lput a.p.s1.c c [tgI .i32 x23] := by rw [e25, h24]
      rw [← h25] at hS hfl
      refine ⟨⟨x25, 0, 0, 0, 0, 0⟩, PASS _ ⟨⟨x.vars.set c x23, x.gone, x.tips⟩, ⟨hS, hp.p2, hp.p3⟩, ?_⟩, by repeat' first | with_reducible apply And.intro | exact trivial | exact rfl | assumption⟩
      show (⟨⟨x.vars.set c x23, x.gone, x.tips⟩, 0, 0, 0, 0, 0⟩ : PsX) = passX X (a.p.ps x) s
      unfold passX
      show _ = (match pasX x.gone X.ns a.p.r2.toNat s with | some k => _ | none => _)
      rw [← hns, hmt, ← hJ]
      have hside : sideX X (a.p.ps x) = x23 := by
        unfold sideX
        show min (max (1 + a.p.r4.tmod a.p.r1) (X.cells.getD (2 * a.p.r0.toNat) 0)) (X.cells.getD (2 * a.p.r0.toNat + 1) 0) = x23
        rw [hct, e23, e22, h18]
        rfl
      show _ = (⟨⟨x.vars.set a.p.r0.toNat (sideX X (a.p.ps x)), x.gone, x.tips⟩, 0, 0, 0, 0, 0⟩ : PsX)
      rw [hct, hside]
theorem s_pass : SpecOK Tryz.prog S_pass.spec := fun a K ⟨⟨hg, ⟨x, hp⟩, ⟨X, hX⟩⟩, h⟩ hq => specD_at (an := [some (la_pass a x)]) envOK (cwN_ok (fun _ h => cwD_ok s_seats h) 3) (fun hP => g_pass a x X hg hp hX hP) K ⟨⟨hg, ⟨x, hp⟩, ⟨X, hX⟩⟩, h⟩ hq
end Go.Proofs.YtdjnipabfbblnaaGreatDoor
end
