/- A program's code: Run of start and silence is what is told of it. -/
import Derived.Test.YtdjnipabfbblnaaGreatDoorYgtP
section
set_option maxRecDepth 100000
namespace Go.Proofs.YtdjnipabfbblnaaGreatDoor
open Go.Ev
set_option linter.unusedSectionVars false
variable [Go.Ev.Frozen Tryz.prog]
abbrev QYmxP_1 (a0 : SA) (a1 : List Int) : Prop := Sli (Value.int IntKind.i32) 1 a0.1 a0.2 a0.3 a0.4 a0.5 a1
abbrev QYmxP_2 (a0 : CdA) : Prop := True ∧ a0.1 = a0.1 ∧ a0.2 = a0.2 ∧ Z4 a0.3 ∧ Z4 a0.4 ∧ Z4 a0.5 ∧ Z4 a0.6 ∧ Z4 a0.7 ∧ Z4 a0.8 ∧ Z4 a0.9 ∧ a0.10 = a0.10 ∧ a0.11 = a0.11 ∧ a0.12 =
 a0.12 ∧ a0.13 = a0.13 ∧ a0.14 = a0.14 ∧ True
abbrev QYmxP_3 : Prop := (0 : Int) = 0 ∧ (0 : Int) = 0 ∧ (0 : Int) = 0 ∧ (0 = 0 ∧ 0 = 0) ∧ (0 : Int) = 0 ∧ True
abbrev QYmxP_4 (a0 : SA) (a1 : List Int) : Prop := Sli (Value.int IntKind.i64) 4 a0.1 a0.2 a0.3 a0.4 a0.5 a1
abbrev QYmxP_5 (a0 : RnO) (a1 : List Int) (a2 : List Int) (a3 : Int) : Prop := HE IntKind.i32 a0.4 (runC a1 (MS.mk (Int.ofNat 0) a2 (Int.ofNat 0)) (manyC a3)).2 ∧ a0.1 = (runC a1
 (MS.mk (Int.ofNat 0) a2 (Int.ofNat 0)) (manyC a3)).1 ∧ a0.2 = (runC a1 (MS.mk (Int.ofNat 0) a2 (Int.ofNat 0)) (manyC a3)).3
abbrev QYmxP_6 : Prop := True ∧ True ∧ True ∧ True ∧ True ∧ True ∧ True ∧ True ∧ True ∧ True ∧ True ∧ True ∧ True ∧ True ∧ True ∧ True ∧ (True ∧ True) ∧ (True ∧ True) ∧ True ∧ True
abbrev QYmxP_7 (a0 : NwO) (a1 : List Int) : Prop := Sli (Value.int IntKind.i32) 1 false (nat_lit 0) a0.1 a0.1 a0.2 a1
abbrev QYmxP_8 (a0 : Int) (a1 : OtO) (a2 : OtO) : Prop := (((0 = 0 ∧ Int.toNat a0 = Int.toNat a0 ∧ a1.1 = a2.1) ∧ false = false ∧ QYmxP_3) ∧ (0 : Int) = 0 ∧ True) ∧ (a1.1 = a2.1 ∧
 FlatL a1.2 ∧ a1.2 = a2.2) ∧ True
abbrev QYmxP_9 (a0 : Nat) (a1 : RnO) (a2 : List Int) : Prop := Sli (Value.int IntKind.i32) 1 false (nat_lit 0) a0 a1.3 a1.4 a2
theorem vc_run0 (a : CdA) : G_run0 a = ((True ∧ cdP (CdA.mk a.1 a.2 a.3 a.4 a.5 a.6 a.7 a.8 a.9 a.10 a.11 a.12 a.13 a.14) ∧ (↑a.3.3 : Int) = a.1 ∧ (∃ (x0 : List Int), QYmxP_1 a.3 x0)) ∧ ((0 = 0 ∧ (0 : Int) = 0 ∧ (0 = 0
∧ 0 = 0) ∧ (0 = 0 ∧ 0 = 0) ∧ True) ∧ QYmxP_2 a ∧ ZF a.3.5 ∧ ZF a.4.5 ∧ ZF a.5.5 ∧ ZF a.6.5 ∧ ZF a.7.5 ∧ ZF a.8.5 ∧ ZF a.9.5 ∧ True) ∧ (∀ (x1 : NwO), x1.1 = a.3.3 + 49 ∧ (∀ (x2 :
List Int), QYmxP_1 a.3 x2 → HE IntKind.i32 x1.2 (x2 ++ List.replicate 49 (0 : Int))) → (True ∧ (∃ (x3 : List Int), QYmxP_7 x1 x3 ∧ W32 x3) ∧ (1 ≤ x1.1 ∧ x1.1 ≤ 256) ∧ (∃ (x4 : List
Int), QYmxP_4 a.5 x4) ∧ ((0 : Int) ≤ Int.ofNat 0 ∧ Int.ofNat 0 ≤ (2048 : Int)) ∧ ((0 : Int) ≤ Int.ofNat 0 ∧ Int.ofNat 0 ≤ (2 : Int)) ∧ 0 ≤ a.10) ∧ ((Z4 a.5 ∧ (Int.ofNat 0 = (0 :
Int) ∧ (nat_lit 0 = 0 ∧ x1.1 = x1.1 ∧ x1.1 = x1.1) ∧ Int.ofNat 0 = (0 : Int) ∧ True) ∧ a.10 = a.10 ∧ True) ∧ ZF a.5.5 ∧ ZF x1.2 ∧ ZF cells4 ∧ True) ∧ (∀ (x5 : RnO), x1.1 ≤ x5.3 ∧
(∀ (x6 x7 : List Int), QYmxP_7 x1 x6 → W32 x6 → QYmxP_4 a.5 x7 → QYmxP_5 x5 x7 x6 a.10) → QYmxP_6 ∧ (True ∧ cdP (CdA.mk a.1 a.2 a.3 a.4 a.5 a.6 a.7 a.8 a.9 a.10 a.11 a.12 a.13
a.14) ∧ (↑x1.1 : Int) = a.1 + (49 : Int) ∧ (∃ (x8 : List Int), QYmxP_9 x1.1 x5 x8 ∧ W32 x8)) ∧ ((0 = 0 ∧ (0 : Int) = 0 ∧ (x5.1 = x5.1 ∧ (nat_lit 0 = 0 ∧ x1.1 = x1.1 ∧ x5.3 = x5.3)
∧ x5.2 = x5.2 ∧ True) ∧ True) ∧ QYmxP_2 a ∧ ZF a.3.5 ∧ ZF a.4.5 ∧ ZF a.5.5 ∧ ZF a.6.5 ∧ ZF a.7.5 ∧ ZF a.8.5 ∧ ZF a.9.5 ∧ ZF x5.4 ∧ True) ∧ (∀ (x9 : OtO), x5.2 = 1 ∧ a.1 ≤ (↑x9.1 :
Int) ∧ (∀ (x10 : List Int), QYmxP_9 x1.1 x5 x10 → HE IntKind.i32 x9.2 (List.take (Int.toNat a.1) x10)) → ∃ (x11 : OtO), (a.1 ≤ (↑x11.1 : Int) ∧ (∀ (x12 x13 : List Int), QYmxP_1 a.3
x12 → QYmxP_4 a.5 x13 → (lastC x12 (List.replicate 49 (0 : Int)) x13 a.10).3 = (1 : Int) ∧ HE IntKind.i32 x11.2 (List.take (Int.toNat a.1) (lastC x12 (List.replicate 49 (0 : Int))
x13 a.10).2))) ∧ QYmxP_8 a.1 x11 x9) ∧ (∀ (_ : Unit), x5.2 = 2 → ∃ (_ : Unit), (∀ (x16 x17 : List Int), QYmxP_1 a.3 x16 → QYmxP_4 a.5 x17 → (lastC x16 (List.replicate 49 (0 : Int))
x17 a.10).3 = (2 : Int)) ∧ (((0 = 0 ∧ 0 = 0) ∧ true = true ∧ QYmxP_3) ∧ (0 : Int) = 0 ∧ True) ∧ True) ∧ (∀ (_ : Unit), x5.2 ≠ 1 ∧ x5.2 ≠ 2 → ∃ (_ : Unit), (∀ (x20 x21 : List Int),
QYmxP_1 a.3 x20 → QYmxP_4 a.5 x21 → (lastC x20 (List.replicate 49 (0 : Int)) x21 a.10).3 ≠ (1 : Int) ∧ (lastC x20 (List.replicate 49 (0 : Int)) x21 a.10).3 ≠ (2 : Int)) ∧ (((0 = 0
∧ 0 = 0) ∧ false = false ∧ QYmxP_3) ∧ (10 : Int) = 10 ∧ True) ∧ True) ∧ True) ∧ True) ∧ True) := by kernel_rfl
set_option maxHeartbeats 3200000 in
theorem vc_run3 (a : FtA) : G_run3 a = ((True ∧ (cdP a.1 ∧ a.3.3 = 1) ∧ (∃ (x0 : List Int), QYmxP_1 a.2 x0) ∧ (∃ (x1 : List Int), QYmxP_1 a.3 x1)) ∧ ((0 = 0 ∧ (3 : Int) = 3 ∧ Z4 a.2 ∧ Z4 a.3 ∧ True) ∧ QYmxP_2 a.1 ∧ ZF
a.1.3.5 ∧ ZF a.1.4.5 ∧ ZF a.1.5.5 ∧ ZF a.1.6.5 ∧ ZF a.1.7.5 ∧ ZF a.1.8.5 ∧ ZF a.1.9.5 ∧ ZF a.2.5 ∧ ZF a.3.5 ∧ True) ∧ (∀ (x2 : NwO), (↑a.2.3 : Int) = a.1.1 ∧ x2.1 = a.2.3 + 49 ∧ (∀
(x3 x4 : List Int), QYmxP_1 a.2 x3 → QYmxP_1 a.3 x4 → HE IntKind.i32 x2.2 (x3 ++ (x4 ++ List.replicate 48 (0 : Int)))) → (True ∧ (∃ (x5 : List Int), QYmxP_7 x2 x5 ∧ W32 x5) ∧ (1 ≤
x2.1 ∧ x2.1 ≤ 256) ∧ (∃ (x6 : List Int), QYmxP_4 a.1.8 x6) ∧ ((0 : Int) ≤ Int.ofNat 0 ∧ Int.ofNat 0 ≤ (2048 : Int)) ∧ ((0 : Int) ≤ Int.ofNat 0 ∧ Int.ofNat 0 ≤ (2 : Int)) ∧ 0 ≤
a.1.13) ∧ ((Z4 a.1.8 ∧ (Int.ofNat 0 = (0 : Int) ∧ (nat_lit 0 = 0 ∧ x2.1 = x2.1 ∧ x2.1 = x2.1) ∧ Int.ofNat 0 = (0 : Int) ∧ True) ∧ a.1.13 = a.1.13 ∧ True) ∧ ZF a.1.8.5 ∧ ZF x2.2 ∧
ZF cells4 ∧ True) ∧ (∀ (x7 : RnO), x2.1 ≤ x7.3 ∧ (∀ (x8 x9 : List Int), QYmxP_7 x2 x8 → W32 x8 → QYmxP_4 a.1.8 x9 → QYmxP_5 x7 x9 x8 a.1.13) → QYmxP_6 ∧ (True ∧ cdP a.1 ∧ (↑x2.1 :
Int) = a.1.1 + (49 : Int) ∧ (∃ (x10 : List Int), QYmxP_9 x2.1 x7 x10 ∧ W32 x10)) ∧ ((0 = 0 ∧ (3 : Int) = 3 ∧ (x7.1 = x7.1 ∧ (nat_lit 0 = 0 ∧ x2.1 = x2.1 ∧ x7.3 = x7.3) ∧ x7.2 =
x7.2 ∧ True) ∧ True) ∧ QYmxP_2 a.1 ∧ ZF a.1.3.5 ∧ ZF a.1.4.5 ∧ ZF a.1.5.5 ∧ ZF a.1.6.5 ∧ ZF a.1.7.5 ∧ ZF a.1.8.5 ∧ ZF a.1.9.5 ∧ ZF x7.4 ∧ True) ∧ (∀ (x11 : OtO), x7.2 = 1 ∧ a.1.1 ≤
(↑x11.1 : Int) ∧ (∀ (x12 : List Int), QYmxP_9 x2.1 x7 x12 → HE IntKind.i32 x11.2 (List.take (Int.toNat a.1.1) x12)) → ∃ (x13 : OtO), (((↑a.2.3 : Int) = a.1.1 ∧ a.1.1 ≤ (↑x13.1 :
Int)) ∧ (∀ (x14 x15 x16 : List Int), QYmxP_1 a.2 x14 → QYmxP_1 a.3 x15 → QYmxP_4 a.1.8 x16 → (lastC x14 (x15 ++ List.replicate 48 (0 : Int)) x16 a.1.13).3 = (1 : Int) ∧ HE
IntKind.i32 x13.2 (List.take (Int.toNat a.1.1) (lastC x14 (x15 ++ List.replicate 48 (0 : Int)) x16 a.1.13).2))) ∧ QYmxP_8 a.1.1 x13 x11) ∧ (∀ (_ : Unit), x7.2 = 2 → ∃ (_ : Unit),
((↑a.2.3 : Int) = a.1.1 ∧ (∀ (x19 x20 x21 : List Int), QYmxP_1 a.2 x19 → QYmxP_1 a.3 x20 → QYmxP_4 a.1.8 x21 → (lastC x19 (x20 ++ List.replicate 48 (0 : Int)) x21 a.1.13).3 = (2 :
Int))) ∧ (((0 = 0 ∧ 0 = 0) ∧ true = true ∧ QYmxP_3) ∧ (0 : Int) = 0 ∧ True) ∧ True) ∧ (∀ (_ : Unit), x7.2 ≠ 1 ∧ x7.2 ≠ 2 → ∃ (_ : Unit), ((↑a.2.3 : Int) = a.1.1 ∧ (∀ (x24 x25 x26 :
List Int), QYmxP_1 a.2 x24 → QYmxP_1 a.3 x25 → QYmxP_4 a.1.8 x26 → (lastC x24 (x25 ++ List.replicate 48 (0 : Int)) x26 a.1.13).3 ≠ (1 : Int) ∧ (lastC x24 (x25 ++ List.replicate 48
(0 : Int)) x26 a.1.13).3 ≠ (2 : Int))) ∧ (((0 = 0 ∧ 0 = 0) ∧ false = false ∧ QYmxP_3) ∧ (10 : Int) = 10 ∧ True) ∧ True) ∧ True) ∧ True) ∧ (∀ (_ : Unit), ((↑a.2.3 : Int) = a.1.1 →
False) → ∃ (_ : Unit), ((↑a.2.3 : Int) = a.1.1 → False) ∧ (((0 = 0 ∧ 0 = 0) ∧ false = false ∧ QYmxP_3) ∧ (3 : Int) = 3 ∧ True) ∧ True) ∧ True) := by kernel_rfl
theorem g_run0 (a : CdA) (xs cs : List Int) (hc : cdP a) (hfl : (a.first.l : Int) = a.cells) (hm : 0 ≤ a.m0) (hx : Sli (Value.int .i32) 1 a.first.n a.first.o a.first.l a.first.k a.first.c xs) (hw : W32 xs) (hcs : Sli (Value.int .i64) 4 a.i0.n a.i0.o a.i0.l a.i0.k a.i0.c cs) : G_run0 a := by
  have hc0 := hc
  have fv := hx.flat
  have fo := opsFlat
  obtain ⟨⟨⟨hn0, hn1⟩, hs0, hs1⟩, hf⟩ := hc
  obtain ⟨f1, f2, f3, f4, f5, f6, f7⟩ := hf
  have a11 : a.1 = a.cells := rfl
  have a33 : a.3.3 = a.first.l := rfl
  have hl : xs.length = a.first.l := by have := hx.len; omega
  have hwz : W32 (xs ++ z49) := w32_app hw (w32_z 49)
  rw [vc_run0]
  refine ⟨⟨trivial, hc0, hfl, xs, hx⟩, by repeat' first | with_reducible apply And.intro | exact trivial | exact rfl | assumption, fun x1 h1 => ?_, trivial⟩
  obtain ⟨hl2, h1⟩ := h1
  have x11 : x1.1 = x1.l := rfl
  have h2 := h1 xs hx
  have fz := heFlat h2
  have hzl : (xs ++ z49).length = x1.l * 1 := by rw [List.length_append, List.length_replicate]; omega
  have hs : Sli (Value.int .i32) 1 false 0 x1.l x1.l x1.c (xs ++ z49) := Sli.row h2 hzl (Nat.le_refl _) fz
  refine ⟨⟨trivial, ⟨_, hs, hwz⟩, ⟨by omega, by omega⟩, ⟨cs, hcs⟩, ⟨Int.le_refl 0, by decide⟩, ⟨Int.le_refl 0, by decide⟩, hm⟩, by repeat' first | with_reducible apply And.intro | exact trivial | exact rfl | assumption, fun x5 h5 => ?_, trivial⟩
  obtain ⟨q1, q2, q3⟩ := h5.2 _ cs hs hwz hcs
  have h5k := h5.1
  have f5' := heFlat q1
  have x53 : x5.3 = x5.k := rfl
  have hrl : (lastC xs z49 cs a.m0).mem.length = x1.l * 1 := by show (runC _ _ _).mem.length = _; rw [runC_len]; exact hzl
  have hs5 : Sli (Value.int .i32) 1 false 0 x1.l x5.k x5.c (lastC xs z49 cs a.m0).mem := Sli.row q1 hrl (by omega) f5'
  have hw5 : W32 (lastC xs z49 cs a.m0).mem := runC_w32 _ _ _ hwz
  have U : ∀ {p : MS → Prop}, p (lastC xs z49 cs a.m0) → ∀ ys ds : List Int, Sli (Value.int .i32) 1 a.first.n a.first.o a.first.l a.first.k a.first.c ys → Sli (Value.int .i64) 4 a.i0.n a.i0.o a.i0.l a.i0.k a.i0.c ds → p (lastC ys z49 ds a.m0) := fun h ys ds hy hd => by rw [Sli.uniqI hy hx, Sli.uniqI hd hcs]; exact h
  refine ⟨by repeat' first | with_reducible apply And.intro | exact trivial | exact rfl | assumption, ⟨trivial, hc0, by omega, _, hs5, hw5⟩, by repeat' first | with_reducible apply And.intro | exact trivial | exact rfl | assumption, fun x9 h9 => ?_,
    fun _ h => ⟨(), U (p := fun s => s.halt = 2) (q3.symm.trans h), by repeat' first | with_reducible apply And.intro | exact trivial | exact rfl | assumption⟩, fun _ h => ⟨(), U (p := fun s => s.halt ≠ 1 ∧ s.halt ≠ 2) ⟨fun k => h.1 (q3.trans k), fun k => h.2 (q3.trans k)⟩, by repeat' first | with_reducible apply And.intro | exact trivial | exact rfl | assumption⟩, trivial⟩
  obtain ⟨w1, w2, w3⟩ := h9
  have w3 := w3 _ hs5
  have f9 := heFlat w3
  exact ⟨⟨x9.k, x9.c, 0, 0⟩, ⟨w2, U (p := fun s => s.halt = 1 ∧ HE .i32 x9.c (s.mem.take a.cells.toNat)) ⟨q3.symm.trans w1, w3⟩⟩, by repeat' first | with_reducible apply And.intro | exact trivial | exact rfl | assumption⟩
theorem s_run0 : SpecOK Tryz.prog S_run0.spec := fun a K ⟨⟨hc, hfl, hm⟩, ⟨xs, hx, hw⟩, cs, hcs⟩ hq => specD_at (an := []) envOK (cwN_ok (fun _ h => cwP_ok s_stat0 (cwP_ok s_out0 (cwD_ok s_mrun h))) 3) (fun _ => g_run0 a xs cs hc hfl hm hx hw hcs) K ⟨⟨hc, hfl, hm⟩, ⟨xs, hx, hw⟩, cs, hcs⟩ hq
theorem g_run3 (a : FtA) (xs gs cs : List Int) (hc : cdP a.c) (hgl : a.g.l = 1) (hm : 0 ≤ a.c.m3) (hx : Sli (Value.int .i32) 1 a.v.n a.v.o a.v.l a.v.k a.v.c xs) (hw : W32 xs) (hgs : Sli (Value.int .i32) 1 a.g.n a.g.o a.g.l a.g.k a.g.c gs) (hwg : W32 gs) (hcs : Sli (Value.int .i64) 4 a.c.i3.n a.c.i3.o a.c.i3.l a.c.i3.k a.c.i3.c cs) : G_run3 a := by
  have hc0 := hc
  have fv := hx.flat
  have fo := opsFlat
  have fg := hgs.flat
  have hgl2 : gs.length = 1 := by have := hgs.len; omega
  obtain ⟨⟨⟨hn0, hn1⟩, hs0, hs1⟩, hf⟩ := hc
  obtain ⟨f1, f2, f3, f4, f5, f6, f7⟩ := hf
  have a11 : a.1.1 = a.c.cells := rfl
  have a23 : a.2.3 = a.v.l := rfl
  have hl : xs.length = a.v.l := by have := hx.len; omega
  have hwz : W32 (xs ++ (gs ++ z48)) := w32_app hw (w32_app hwg (w32_z 48))
  rw [vc_run3]
  refine ⟨⟨trivial, ⟨hc0, hgl⟩, ⟨xs, hx⟩, gs, hgs⟩, by repeat' first | with_reducible apply And.intro | exact trivial | exact rfl | assumption, fun x1 h1 => ?_, fun _ hne => ⟨(), hne, by repeat' first | with_reducible apply And.intro | exact trivial | exact rfl | assumption⟩, trivial⟩
  obtain ⟨hl1, hl2, h1⟩ := h1
  have x11 : x1.1 = x1.l := rfl
  have h2 := h1 xs gs hx hgs
  have fz := heFlat h2
  have hzl : (xs ++ (gs ++ z48)).length = x1.l * 1 := by rw [List.length_append, List.length_append, List.length_replicate]; omega
  have hs : Sli (Value.int .i32) 1 false 0 x1.l x1.l x1.c (xs ++ (gs ++ z48)) := Sli.row h2 hzl (Nat.le_refl _) fz
  refine ⟨⟨trivial, ⟨_, hs, hwz⟩, ⟨by omega, by omega⟩, ⟨cs, hcs⟩, ⟨Int.le_refl 0, by decide⟩, ⟨Int.le_refl 0, by decide⟩, hm⟩, by repeat' first | with_reducible apply And.intro | exact trivial | exact rfl | assumption, fun x5 h5 => ?_, trivial⟩
  obtain ⟨q1, q2, q3⟩ := h5.2 _ cs hs hwz hcs
  have h5k := h5.1
  have f5' := heFlat q1
  have x53 : x5.3 = x5.k := rfl
  have hrl : (lastC xs (gs ++ z48) cs a.c.m3).mem.length = x1.l * 1 := by show (runC _ _ _).mem.length = _; rw [runC_len]; exact hzl
  have hs5 : Sli (Value.int .i32) 1 false 0 x1.l x5.k x5.c (lastC xs (gs ++ z48) cs a.c.m3).mem := Sli.row q1 hrl (by omega) f5'
  have hw5 : W32 (lastC xs (gs ++ z48) cs a.c.m3).mem := runC_w32 _ _ _ hwz
  have U : ∀ {p : MS → Prop}, p (lastC xs (gs ++ z48) cs a.c.m3) → ∀ ys us ds : List Int, Sli (Value.int .i32) 1 a.v.n a.v.o a.v.l a.v.k a.v.c ys → Sli (Value.int .i32) 1 a.g.n a.g.o a.g.l a.g.k a.g.c us → Sli (Value.int .i64) 4 a.c.i3.n a.c.i3.o a.c.i3.l a.c.i3.k a.c.i3.c ds → p (lastC ys (us ++ z48) ds a.c.m3) := fun h ys us ds hy hu hd => by rw [Sli.uniqI hy hx, Sli.uniqI hu hgs, Sli.uniqI hd hcs]; exact h
  refine ⟨by repeat' first | with_reducible apply And.intro | exact trivial | exact rfl | assumption, ⟨trivial, hc0, by omega, _, hs5, hw5⟩, by repeat' first | with_reducible apply And.intro | exact trivial | exact rfl | assumption, fun x9 h9 => ?_,
    fun _ h => ⟨(), ⟨hl1, U (p := fun s => s.halt = 2) (q3.symm.trans h)⟩, by repeat' first | with_reducible apply And.intro | exact trivial | exact rfl | assumption⟩, fun _ h => ⟨(), ⟨hl1, U (p := fun s => s.halt ≠ 1 ∧ s.halt ≠ 2) ⟨fun k => h.1 (q3.trans k), fun k => h.2 (q3.trans k)⟩⟩, by repeat' first | with_reducible apply And.intro | exact trivial | exact rfl | assumption⟩, trivial⟩
  obtain ⟨w1, w2, w3⟩ := h9
  have w3 := w3 _ hs5
  have f9 := heFlat w3
  exact ⟨⟨x9.k, x9.c, 0, 0⟩, ⟨⟨hl1, w2⟩, U (p := fun s => s.halt = 1 ∧ HE .i32 x9.c (s.mem.take a.c.cells.toNat)) ⟨q3.symm.trans w1, w3⟩⟩, by repeat' first | with_reducible apply And.intro | exact trivial | exact rfl | assumption⟩
theorem s_run3 : SpecOK Tryz.prog S_run3.spec := fun a K ⟨⟨hc, hgl, hm⟩, ⟨xs, hx, hw⟩, ⟨gs, hgs, hwg⟩, cs, hcs⟩ hq => specD_at (an := []) envOK (cwN_ok (fun _ h => cwP_ok s_stat3 (cwP_ok s_out3 (cwD_ok s_mrun h))) 3) (fun _ => g_run3 a xs gs cs hc hgl hm hx hw hgs hwg hcs) K ⟨⟨hc, hgl, hm⟩, ⟨xs, hx, hw⟩, ⟨gs, hgs, hwg⟩, cs, hcs⟩ hq
end Go.Proofs.YtdjnipabfbblnaaGreatDoor
end

/- A program's code: fits of play (what is to be shown). -/
section
set_option maxRecDepth 100000
namespace Go.Proofs.YtdjnipabfbblnaaGreatDoor
open Go.Ev
-- keep cdP cdF num foldI dnum frm lastC VrH inArgs Go.Ev.Sli Go.Ev.HV insAt argP rightP hasC farC stepC okAt twoC truthC W32 runC storeC manyC cells4
structure VrH (s : SA) (ps : List (Int × Int)) : Prop where
  len : ps.length = s.l
  fit : s.n = false → s.o + s.l * 4 ≤ s.c.length
  nil : s.n = true → s.l = 0
  at_ : ∀ i p, ps[i]? = some p → ∃ nm sz, Rd s.c (s.o + i * 4) (mkStr nm) ∧ Rd s.c (s.o + i * 4 + 1) (.int .i64 sz) ∧ Rd s.c (s.o + i * 4 + 2) (.int .i64 p.1) ∧ Rd s.c (s.o + i * 4 + 3) (.int .i64 p.2)
def inArgs (ps : List (Int × Int)) (gs : List Int) (n : Nat) : Prop := ∀ i, i < n → (ps.getD i (0, 0)).1 ≤ gs.getD i 0 ∧ gs.getD i 0 ≤ (ps.getD i (0, 0)).2
set_option linter.unusedSectionVars false
variable [Go.Ev.Frozen Tryz.prog]
noncomputable section
abbrev argsOf (s : SA) (gs : List Int) : Prop := Sli (Value.int .i32) 1 s.n s.o s.l s.k s.c gs
def S_fits2 : SpecD where
  f := 132
  α := FtA
  args a := [.pointer (some ⟨13, 0, none⟩), .int .i64 2, a.v.v (13 + 8), a.g.v (13 + 9)]
  R a := cdR a.c 13 ++ [(13 + 8, .f a.v.c 21 .gro), (13 + 9, .f a.g.c 21 .gro)]
  n := 13 + 10
  pre a := cdP a.c ∧ (∃ ps, VrH a.c.params ps) ∧ (∃ gs, argsOf a.g gs ∧ W32 gs) ∧ a.g.l ≤ 1000 ∧ ∃ xs, argsOf a.v xs
  outs := [⟨Unit, fun a _ => ((a.v.l : Int) = a.c.cells ∧ a.g.l = a.c.params.l) ∧ ∀ ps gs, VrH a.c.params ps → argsOf a.g gs → inArgs ps gs a.g.l, fun _ _ => .int .i64 0, fun _ _ => [], fun _ _ => 13 + 10, fun _ _ => []⟩,
    ⟨Unit, fun a _ => ¬ ((a.v.l : Int) = a.c.cells ∧ a.g.l = a.c.params.l), fun _ _ => .int .i64 3, fun _ _ => [], fun _ _ => 13 + 10, fun _ _ => []⟩,
    ⟨Unit, fun a _ => ((a.v.l : Int) = a.c.cells ∧ a.g.l = a.c.params.l) ∧ ∀ ps gs, VrH a.c.params ps → argsOf a.g gs → ¬ inArgs ps gs a.g.l, fun _ _ => .int .i64 2, fun _ _ => [], fun _ _ => 13 + 10, fun _ _ => []⟩]
  pick v _ := match v with
    | .int _ z => Int.rec (fun n => Bool.rec (Bool.rec 0 2 (Nat.beq n 2)) 1 (Nat.beq n 3)) (fun _ => 0) z
    | _ => 0
  find l A := cdK A 13 (lv l 0) fun c q => saK A (13 + 8) (lv l 2) fun v q2 => saK A (13 + 9) (lv l 3) fun g q3 => some (⟨c, v, g⟩, q ++ (q2 ++ q3))
def la_fits2 (a : FtA) (ps : List (Int × Int)) (gs : List Int) : LA where
  α := KI
  at_ e := ⟨[(0, .pointer (some ⟨13, 0, none⟩)), (1, .int .i64 2), (3, a.g.v (13 + 9)), (49, a.c.params.v (13 + 2)), (50, tgI .i64 a.c.params.l), (51, tgI .i64 e.k)],
    cdR a.c 13 ++ [(13 + 8, .f a.v.c 21 .gro), (13 + 9, .f a.g.c 21 .gro)], 13 + 10⟩
  J e := (0 ≤ e.k ∧ e.k ≤ a.c.params.l) ∧ ((a.v.l : Int) = a.c.cells ∧ a.g.l = a.c.params.l) ∧ inArgs ps gs e.k.toNat
  μ e := (a.c.params.l - e.k).toNat
  ren _ := []
def G_fits2 (a : FtA) (ps : List (Int × Int)) (gs : List Int) : Prop := fnW Tryz.prog E0 (cwN (fun c => c) 3) [some (la_fits2 a ps gs)] S_fits2.f (S_fits2.args a) (mem (S_fits2.R a) S_fits2.n) (endD Tryz.prog S_fits2 a)
end
end Go.Proofs.YtdjnipabfbblnaaGreatDoor
end

/- A program's code: fits of play is what is told of it. -/
section
set_option maxRecDepth 100000
namespace Go.Proofs.YtdjnipabfbblnaaGreatDoor
open Go.Ev
set_option linter.unusedSectionVars false
variable [Go.Ev.Frozen Tryz.prog]
abbrev QYmyP_4 : Prop := True ∧ True ∧ True ∧ True ∧ True ∧ True ∧ True ∧ True ∧ True ∧ True ∧ True ∧ True ∧ True ∧ True ∧ True ∧ True ∧ True ∧ True ∧ True
abbrev QYmyP_3 (a0 : FtA) : Prop := (↑a0.2.3 : Int) = a0.1.1 ∧ a0.3.3 = a0.1.4.3
abbrev QYmyP_1 (a0 : FtA) : Prop := QYmyP_4 ∧ ∃ (_ : Unit), (QYmyP_3 a0 ∧ (∀ (b1 : List (Int × Int)) (b2 : List Int), VrH a0.1.4 b1 → Sli (Value.int IntKind.i32) 1 a0.3.1 a0.3.2
 a0.3.3 a0.3.4 a0.3.5 b2 → ¬(inArgs b1 b2 a0.3.3))) ∧ (2 : Int) = 2 ∧ True
abbrev QYmyP_2 (a0 : FtA) : Prop := ((True ∧ a0.1.1 = a0.1.1 ∧ a0.1.2 = a0.1.2 ∧ Z4 a0.1.3 ∧ Z4 a0.1.4 ∧ Z4 a0.1.5 ∧ Z4 a0.1.6 ∧ Z4 a0.1.7 ∧ Z4 a0.1.8 ∧ Z4 a0.1.9 ∧ a0.1.10 =
 a0.1.10 ∧ a0.1.11 = a0.1.11 ∧ a0.1.12 = a0.1.12 ∧ a0.1.13 = a0.1.13 ∧ a0.1.14 = a0.1.14 ∧ True) ∧ ZF a0.1.3.5 ∧ ZF a0.1.4.5 ∧ ZF a0.1.5.5 ∧ ZF a0.1.6.5 ∧ ZF a0.1.7.5 ∧ ZF a0.1.8.5
 ∧ ZF a0.1.9.5 ∧ ZF a0.2.5 ∧ ZF a0.3.5 ∧ True) ∧ True
theorem vc_fits2 (a : FtA) (ps : List (Int × Int)) (gs : List Int) : G_fits2 a ps gs = (∀ (x0 : Int), x0 = (↑a.1.4.3 : Int) → (True ∧ True ∧ True ∧ True ∧ True ∧ True ∧ True ∧ True ∧ True ∧ True ∧ (True ∧ True) ∧ True ∧ True ∧ True) ∧ ∀ (x1 : Int), x1 = (↑a.2.3 :
Int) → (x1 ≠ a.1.1 → (∃ (_ : Unit), (QYmyP_3 a → False) ∧ (3 : Int) = 3 ∧ True)) ∧ (¬(x1 ≠ a.1.1) → ∀ (x3 : Int), x3 = (↑a.3.3 : Int) → (x3 ≠ x0 → (∃ (_ : Unit), (QYmyP_3 a →
False) ∧ (3 : Int) = 3 ∧ True)) ∧ (¬(x3 ≠ x0) → ∀ (x5 : Int), x5 = (↑a.1.4.3 : Int) → ∃ (x6 : KI), ((0 ≤ x6.1 ∧ x6.1 ≤ (↑a.1.4.3 : Int)) ∧ QYmyP_3 a ∧ inArgs ps gs (Int.toNat
x6.1)) ∧ ((0 = 0 ∧ (2 : Int) = 2 ∧ Z4 a.3 ∧ Z4 a.1.4 ∧ (↑a.1.4.3 : Int) = x5 ∧ x6.1 = 0 ∧ True) ∧ QYmyP_2 a) ∧ ∀ (x7 : KI), (0 ≤ x7.1 ∧ x7.1 ≤ (↑a.1.4.3 : Int)) ∧ QYmyP_3 a ∧
inArgs ps gs (Int.toNat x7.1) → (x7.1 < (↑a.1.4.3 : Int) → (0 ≤ x7.1 ∧ x7.1 < (↑a.1.4.3 : Int)) ∧ (∀ (x8 : Nat), x8 = a.1.4.2 + Int.toNat x7.1 * 4 → ∃ (x9 : List UInt8), Rd a.1.4.5
(Nat.add x8 0) (Value.string (ByteArray.mk (Array.mk x9))) ∧ ∃ (x10 : Int), Rd a.1.4.5 (Nat.add x8 1) (Value.int IntKind.i64 x10) ∧ ∃ (x11 : Int), Rd a.1.4.5 (Nat.add x8 2)
(Value.int IntKind.i64 x11) ∧ ∃ (x12 : Int), Rd a.1.4.5 (Nat.add x8 3) (Value.int IntKind.i64 x12) ∧ (0 ≤ x7.1 ∧ x7.1 < (↑a.3.3 : Int)) ∧ ∀ (x13 : Nat), x13 = a.3.2 + Int.toNat
x7.1 * 1 → ∃ (x14 : Int), Rd a.3.5 (Nat.add x13 0) (Value.int IntKind.i32 x14) ∧ ∀ (x15 : Int), x15 = IntKind.wrap .i64 x14 → (x15 < x11 → QYmyP_1 a) ∧ (¬(x15 < x11) → (0 ≤ x7.1 ∧
x7.1 < (↑a.3.3 : Int)) ∧ ∀ (x19 : Nat), x19 = a.3.2 + Int.toNat x7.1 * 1 → ∃ (x20 : Int), Rd a.3.5 (Nat.add x19 0) (Value.int IntKind.i32 x20) ∧ ∀ (x21 : Int), x21 = IntKind.wrap
.i64 x20 → (x12 < x21 → QYmyP_1 a) ∧ (¬(x12 < x21) → QYmyP_4 ∧ ∀ (x25 : Int), x25 = IntKind.wrap .i64 (x7.1 + (1 : Int)) → ∃ (x26 : KI), ((0 ≤ x26.1 ∧ x26.1 ≤ (↑a.1.4.3 : Int)) ∧
QYmyP_3 a ∧ inArgs ps gs (Int.toNat x26.1)) ∧ Int.toNat ((↑a.1.4.3 : Int) - x26.1) < Int.toNat ((↑a.1.4.3 : Int) - x7.1) ∧ (0 = 0 ∧ (2 : Int) = 2 ∧ Z4 a.3 ∧ Z4 a.1.4 ∧ (↑a.1.4.3 :
Int) = (↑a.1.4.3 : Int) ∧ x26.1 = x25 ∧ True) ∧ QYmyP_2 a)))) ∧ (¬(x7.1 < (↑a.1.4.3 : Int)) → ∃ (_ : Unit), (QYmyP_3 a ∧ (∀ (x28 : List (Int × Int)) (x29 : List Int), VrH a.1.4 x28
→ Sli (Value.int IntKind.i32) 1 a.3.1 a.3.2 a.3.3 a.3.4 a.3.5 x29 → inArgs x28 x29 a.3.3)) ∧ (0 : Int) = 0 ∧ True)))) := by kernel_rfl
theorem vrUniq {s : SA} {ps qs : List (Int × Int)} (h : VrH s ps) (g : VrH s qs) : ps = qs := by
  apply List.ext_getElem (h.len.trans g.len.symm)
  intro i h1 h2
  obtain ⟨_, _, _, _, a3, a4⟩ := h.at_ i _ (List.getElem?_eq_getElem h1)
  obtain ⟨_, _, _, _, b3, b4⟩ := g.at_ i _ (List.getElem?_eq_getElem h2)
  exact Prod.ext (Rd.int a3 b3) (Rd.int a4 b4)
theorem g_fits2 (a : FtA) (ps : List (Int × Int)) (gs : List Int) (hc : cdP a.c) (hp : VrH a.c.params ps) (hg : argsOf a.g gs) (hw : W32 gs) (hm : a.g.l ≤ 1000) (fv : FlatL a.v.c) : G_fits2 a ps gs := by
  obtain ⟨⟨⟨hn0, hn1⟩, hs0, hs1⟩, hf⟩ := hc
  obtain ⟨f1, f2, f3, f4, f5, f6, f7⟩ := hf
  have fg := hg.flat
  have GOOD : inArgs ps gs a.g.l → ∀ (qs : List (Int × Int)) (us : List Int), VrH a.c.params qs → argsOf a.g us → inArgs qs us a.g.l := fun h qs us hq hu => by rw [vrUniq hq hp, Sli.uniqI hu hg]; exact h
  have BAD : ¬ inArgs ps gs a.g.l → ∀ (qs : List (Int × Int)) (us : List Int), VrH a.c.params qs → argsOf a.g us → ¬ inArgs qs us a.g.l := fun h qs us hq hu => by rw [vrUniq hq hp, Sli.uniqI hu hg]; exact h
  rw [vc_fits2]
  intro x0 e0
  refine ⟨by repeat' first | with_reducible apply And.intro | exact trivial | exact rfl | assumption, fun x1 e1 => ⟨fun h => ⟨(), fun k => h (e1.trans k.1), rfl, trivial⟩, fun h x3 e3 => ⟨fun h3 => ⟨(), fun k => h3 (by rw [e3, e0, k.2]), rfl, trivial⟩, fun h3 x5 e5 => ?_⟩⟩⟩
  have lv : (a.v.l : Int) = a.c.cells := e1.symm.trans (Classical.not_not.1 h)
  have lg : a.g.l = a.c.params.l := by have : (a.g.l : Int) = a.c.params.l := e3.symm.trans ((Classical.not_not.1 h3).trans e0); omega
  have hlen : (a.v.l : Int) = a.c.cells ∧ a.g.l = a.c.params.l := ⟨lv, lg⟩
  have e5' := e5.symm
  refine ⟨⟨0⟩, ⟨⟨Int.le_refl 0, Int.natCast_nonneg _⟩, hlen, fun i hi => absurd hi (Nat.not_lt_zero _)⟩, by repeat' first | with_reducible apply And.intro | exact trivial | exact rfl | assumption, ?_⟩
  rintro ⟨k⟩ ⟨⟨hk0, hk1⟩, _, hin⟩
  dsimp only at hk0 hk1 hin
  have SM : ∀ {x : Int} {j : Nat}, x = IntKind.wrap .i64 (gs.getD j 0) → x = gs.getD j 0 := fun {x j} h => by have := getD32 hw j; rw [h, wrap_sm (by omega)]
  have hpl := hp.len
  refine ⟨fun hlt => ?_, fun hge => ?_⟩
  · have hlt' : k < (a.c.params.l : Int) := hlt
    have hkl : k.toNat < ps.length := by omega
    obtain ⟨nm, sz, r0, r1, r2, r3⟩ := hp.at_ k.toNat (ps.getD k.toNat (0, 0)) (by simp [List.getD, hkl])
    have hkg : k < (a.g.l : Int) := by omega
    refine ⟨⟨hk0, hlt⟩, fun x8 e8 => ⟨nm, by rw [e8]; exact r0, sz, by rw [e8]; exact r1, (ps.getD k.toNat (0, 0)).1, by rw [e8]; exact r2, (ps.getD k.toNat (0, 0)).2, by rw [e8]; exact r3, ⟨hk0, hkg⟩, fun x13 e13 => ⟨gs.getD k.toNat 0, Sli.rdD hg (by omega) e13, fun x15 e15 => ⟨fun hb => ⟨by repeat' first | with_reducible apply And.intro | exact trivial | exact rfl | assumption, (), ⟨hlen, BAD fun q => ?_⟩, rfl, trivial⟩, fun hb => ⟨⟨hk0, hkg⟩, fun x19 e19 => ⟨gs.getD k.toNat 0, Sli.rdD hg (by omega) e19, fun x21 e21 => ⟨fun hb2 => ⟨by repeat' first | with_reducible apply And.intro | exact trivial | exact rfl | assumption, (), ⟨hlen, BAD fun q => ?_⟩, rfl, trivial⟩, fun hb2 => ⟨by repeat' first | with_reducible apply And.intro | exact trivial | exact rfl | assumption, fun x25 e25 => ?_⟩⟩⟩⟩⟩⟩⟩⟩
    · have := (q k.toNat (by omega)).1
      rw [SM e15] at hb; omega
    · have := (q k.toNat (by omega)).2
      rw [SM e21] at hb2; omega
    · have e25 : x25 = IntKind.wrap .i64 (k + 1) := e25
      have e25' : k + 1 = x25 := by rw [e25, wrap_sm (by omega)]
      rw [SM e15] at hb
      rw [SM e21] at hb2
      refine ⟨⟨k + 1⟩, ⟨⟨by show 0 ≤ k + 1; omega, by show k + 1 ≤ (a.c.params.l : Int); omega⟩, hlen, fun i hi => ?_⟩, by show ((a.c.params.l : Int) - (k + 1)).toNat < ((a.c.params.l : Int) - k).toNat; omega, by repeat' first | with_reducible apply And.intro | exact trivial | exact rfl | assumption⟩
      have hi' : i < (k + 1).toNat := hi
      by_cases hik : i < k.toNat
      · exact hin i hik
      · have : i = k.toNat := by omega
        rw [this]; exact ⟨by omega, by omega⟩
  · have hkl : k.toNat = a.g.l := by have : ¬ k < (a.c.params.l : Int) := hge; omega
    rw [hkl] at hin
    exact ⟨(), ⟨hlen, GOOD hin⟩, rfl, trivial⟩
theorem s_fits2 : SpecOK Tryz.prog S_fits2.spec := fun a K ⟨hc, ⟨ps, hp⟩, ⟨gs, hg, hw⟩, hm, xs, hx⟩ hq => specD_at (an := [some (la_fits2 a ps gs)]) envOK (cwN_ok (fun _ h => h) 3) (fun _ => g_fits2 a ps gs hc hp hg hw hm hx.flat) K ⟨hc, ⟨ps, hp⟩, ⟨gs, hg, hw⟩, hm, xs, hx⟩ hq
end Go.Proofs.YtdjnipabfbblnaaGreatDoor
end

/- A program's code: State of play (what is to be shown). -/
section
set_option maxRecDepth 100000
namespace Go.Proofs.YtdjnipabfbblnaaGreatDoor
open Go.Ev
-- keep cdP cdF num foldI dnum frm lastC VrH inArgs Go.Ev.Sli Go.Ev.HV insAt argP rightP hasC farC stepC okAt twoC truthC W32 runC storeC manyC cells4
set_option linter.unusedSectionVars false
variable [Go.Ev.Frozen Tryz.prog]
noncomputable section
def S_stat2 : SpecD where
  f := 85
  α := FtA
  args a := [.pointer (some ⟨13, 0, none⟩), .int .i64 2, a.v.v (13 + 8), a.g.v (13 + 9)]
  R a := cdR a.c 13 ++ [(13 + 8, .f a.v.c 21 .gro), (13 + 9, .f a.g.c 21 .gro)]
  n := 13 + 10
  pre a := (cdP a.c ∧ a.c.params.l ≤ 4 ∧ a.g.l ≤ 1000) ∧ (∃ xs, argsOf a.v xs) ∧ (∃ gs, argsOf a.g gs ∧ W32 gs) ∧ ∃ ps, VrH a.c.params ps
  outs := [⟨NwO, fun a b => (((a.v.l : Int) = a.c.cells ∧ a.g.l = a.c.params.l) ∧ b.l = a.v.l + 49 ∧ (∀ ps gs, VrH a.c.params ps → argsOf a.g gs → inArgs ps gs a.g.l)) ∧ ∀ xs gs, argsOf a.v xs → argsOf a.g gs → HE .i32 b.c (xs ++ (gs ++ List.replicate (49 - gs.length) 0)),
      fun _ b => .tuple ⟨[.agg ⟨[.int .i64 0, tgS (13 + 10) 0 b.l b.l, .int .i64 0]⟩, .int .i64 0]⟩, fun _ b => [(13 + 10, .f b.c 21 .own)], fun _ _ => 13 + 11, fun v _ => renS (13 + 10) (lv (agv (lv (agv v) 0)) 1)⟩,
    ⟨Unit, fun a _ => ¬ ((a.v.l : Int) = a.c.cells ∧ a.g.l = a.c.params.l), fun _ _ => .tuple ⟨[.agg ⟨[.int .i64 0, .slice none 0 0, .int .i64 0]⟩, .int .i64 3]⟩, fun _ _ => [], fun _ _ => 13 + 11, fun _ _ => []⟩,
    ⟨Unit, fun a _ => ((a.v.l : Int) = a.c.cells ∧ a.g.l = a.c.params.l) ∧ ∀ ps gs, VrH a.c.params ps → argsOf a.g gs → ¬ inArgs ps gs a.g.l, fun _ _ => .tuple ⟨[.agg ⟨[.int .i64 0, .slice none 0 0, .int .i64 0]⟩, .int .i64 2]⟩, fun _ _ => [], fun _ _ => 13 + 11, fun _ _ => []⟩]
  pick v _ := match lv (agv v) 1 with
    | .int _ z => Int.rec (fun n => Bool.rec (Bool.rec 0 2 (Nat.beq n 2)) 1 (Nat.beq n 3)) (fun _ => 0) z
    | _ => 0
  find l A := cdK A 13 (lv l 0) fun c q => saK A (13 + 8) (lv l 2) fun v q2 => saK A (13 + 9) (lv l 3) fun g q3 => some (⟨c, v, g⟩, q ++ (q2 ++ q3))
def G_stat2 (a : FtA) : Prop := fnW Tryz.prog E0 (cwN (fun c => cwP 2 S_fits2 (cwD Tryz.prog S_cwrd (cwD Tryz.prog S_mnew c))) 3) [] S_stat2.f (S_stat2.args a) (mem (S_stat2.R a) S_stat2.n) (endD Tryz.prog S_stat2 a)
end
end Go.Proofs.YtdjnipabfbblnaaGreatDoor
end

/- A program's code: State of play is what is told of it. -/
section
set_option maxRecDepth 100000
namespace Go.Proofs.YtdjnipabfbblnaaGreatDoor
open Go.Ev
set_option linter.unusedSectionVars false
variable [Go.Ev.Frozen Tryz.prog]
set_option maxHeartbeats 3200000 in
abbrev QYmzP_5 (a0 : FtA) : Prop := (↑a0.2.3 : Int) = a0.1.1 ∧ a0.3.3 = a0.1.4.3
abbrev QYmzP_3 (a0 : SA) (a1 : List Int) : Prop := Sli (Value.int IntKind.i32) 1 a0.1 a0.2 a0.3 a0.4 a0.5 a1
abbrev QYmzP_2 (a0 : FtA) (a1 : Nat) (a2 : List Value) : Prop := (True ∧ True ∧ True ∧ True ∧ True ∧ True ∧ True ∧ True ∧ True ∧ True ∧ True) ∧ ∃ (b0 : NwO), ((QYmzP_5 a0 ∧ b0.1 =
 a0.2.3 + 49 ∧ (∀ (b1 : List (Int × Int)) (b2 : List Int), VrH a0.1.4 b1 → QYmzP_3 a0.3 b2 → inArgs b1 b2 a0.3.3)) ∧ (∀ (b1 b2 : List Int), QYmzP_3 a0.2 b1 → QYmzP_3 a0.3 b2 → HE
 IntKind.i32 b0.2 (b1 ++ (b2 ++ List.replicate (49 - List.length b2) (0 : Int))))) ∧ (((0 : Int) = 0 ∧ (0 = 0 ∧ b0.1 = a1 ∧ b0.1 = a1) ∧ (0 : Int) = 0 ∧ True) ∧ (0 : Int) = 0 ∧
 True) ∧ (True ∧ FlatL b0.2 ∧ b0.2 = a2) ∧ True
abbrev QYmzP_1 (a0 : FtA) (a1 : NwO) (a2 : List Value) : Prop := ∀ (b0 : Int), b0 = IntKind.wrap .i64 (a0.1.1 + (0 : Int)) → (((0 : Int) ≤ b0 ∧ b0 ≤ (↑a1.1 : Int) ∧ (↑a1.1 : Int) ≤
 (↑a1.1 : Int)) ∧ (false = true → (↑a1.1 : Int) ≤ (↑a1.1 : Int) ∧ (b0 = (0 : Int) ∨ b0 < (↑a1.1 : Int)))) ∧ ∀ (b1 b2 b3 : Nat), (b1 = if NwO.l a1 = Int.toNat b0 then 0 else 0 +
 Int.toNat b0 * 1) → b2 = Int.toNat (↑a1.1 : Int) - Int.toNat b0 → b3 = a1.1 - Int.toNat b0 → (a0.3.1 = true → (true = true ∧ true = true ∧ b1 + 0 ≤ List.length a2) ∧ (∀ (b4 : List
 Value), b4 = lput a2 b1 [] → QYmzP_2 a0 a1.1 b4)) ∧ (a0.3.1 = false → ∀ (b4 : Nat), b4 = Min.min a0.3.3 b2 → a0.3.2 + b4 * 1 ≤ List.length a0.3.5 ∧ ∀ (b5 : List Value), b5 = lwin
 a0.3.5 a0.3.2 (b4 * 1) → (true = true ∧ lall oneK b5 = true ∧ b1 + List.length b5 ≤ List.length a2) ∧ ∀ (b6 : List Value), b6 = lput a2 b1 b5 → QYmzP_2 a0 a1.1 b6)
abbrev QYmzP_4 (a0 : CdA) : Prop := True ∧ a0.1 = a0.1 ∧ a0.2 = a0.2 ∧ Z4 a0.3 ∧ Z4 a0.4 ∧ Z4 a0.5 ∧ Z4 a0.6 ∧ Z4 a0.7 ∧ Z4 a0.8 ∧ Z4 a0.9 ∧ a0.10 = a0.10 ∧ a0.11 = a0.11 ∧ a0.12 =
 a0.12 ∧ a0.13 = a0.13 ∧ a0.14 = a0.14 ∧ True
theorem vc_stat2 (a : FtA) : G_stat2 a = ((True ∧ cdP a.1 ∧ (∃ (x0 : List (Int × Int)), VrH a.1.4 x0) ∧ (∃ (x1 : List Int), QYmzP_3 a.3 x1 ∧ W32 x1) ∧ a.3.3 ≤ 1000 ∧ (∃ (x2 : List Int), QYmzP_3 a.2 x2)) ∧ ((0 = 0 ∧ (2 :
Int) = 2 ∧ Z4 a.2 ∧ Z4 a.3 ∧ True) ∧ QYmzP_4 a.1 ∧ ZF a.1.3.5 ∧ ZF a.1.4.5 ∧ ZF a.1.5.5 ∧ ZF a.1.6.5 ∧ ZF a.1.7.5 ∧ ZF a.1.8.5 ∧ ZF a.1.9.5 ∧ ZF a.2.5 ∧ ZF a.3.5 ∧ True) ∧ (∀ (_ :
Unit), QYmzP_5 a ∧ (∀ (x4 : List (Int × Int)) (x5 : List Int), VrH a.1.4 x4 → QYmzP_3 a.3 x5 → inArgs x4 x5 a.3.3) → (True ∧ ((1 ≤ a.1.1 ∧ a.1.1 ≤ 200) ∧ 1 ≤ a.1.2 ∧ a.1.2 ≤ 8) ∧
cdF a.1) ∧ ((0 = 0 ∧ True) ∧ QYmzP_4 a.1 ∧ ZF a.1.3.5 ∧ ZF a.1.4.5 ∧ ZF a.1.5.5 ∧ ZF a.1.6.5 ∧ ZF a.1.7.5 ∧ ZF a.1.8.5 ∧ ZF a.1.9.5 ∧ True) ∧ (∀ (_ : Unit), True → (True ∧ 1 ≤
a.1.1 + (49 : Int) ∧ a.1.1 + (49 : Int) ≤ (256 : Int)) ∧ ((a.1.1 + 49 = a.1.1 + (49 : Int) ∧ True) ∧ True) ∧ (∀ (x7 : NwO), (↑x7.1 : Int) = a.1.1 + (49 : Int) ∧ HE IntKind.i32 x7.2
(List.replicate x7.1 (0 : Int)) → (a.2.1 = true → (true = true ∧ true = true ∧ 0 ≤ List.length x7.2) ∧ (∀ (x8 : List Value), x8 = lput x7.2 0 [] → QYmzP_1 a x7 x8)) ∧ (a.2.1 =
false → ∀ (x27 : Nat), x27 = Min.min a.2.3 x7.1 → a.2.2 + x27 * 1 ≤ List.length a.2.5 ∧ ∀ (x28 : List Value), x28 = lwin a.2.5 a.2.2 (x27 * 1) → (true = true ∧ lall oneK x28 = true
∧ 0 + List.length x28 ≤ List.length x7.2) ∧ ∀ (x29 : List Value), x29 = lput x7.2 0 x28 → QYmzP_1 a x7 x29)) ∧ True) ∧ True) ∧ (∀ (_ : Unit), (QYmzP_5 a → False) → ∃ (_ : Unit),
(QYmzP_5 a → False) ∧ (((0 : Int) = 0 ∧ (0 = 0 ∧ 0 = 0) ∧ (0 : Int) = 0 ∧ True) ∧ (3 : Int) = 3 ∧ True) ∧ True) ∧ (∀ (_ : Unit), QYmzP_5 a ∧ (∀ (x51 : List (Int × Int)) (x52 : List
Int), VrH a.1.4 x51 → QYmzP_3 a.3 x52 → ¬(inArgs x51 x52 a.3.3)) → ∃ (_ : Unit), (QYmzP_5 a ∧ (∀ (x54 : List (Int × Int)) (x55 : List Int), VrH a.1.4 x54 → QYmzP_3 a.3 x55 →
¬(inArgs x54 x55 a.3.3))) ∧ (((0 : Int) = 0 ∧ (0 = 0 ∧ 0 = 0) ∧ (0 : Int) = 0 ∧ True) ∧ (2 : Int) = 2 ∧ True) ∧ True) ∧ True) := by kernel_rfl
theorem g_stat2 (a : FtA) (xs gs : List Int) (ps : List (Int × Int)) (hc : cdP a.c) (hpl : a.c.params.l ≤ 4) (hgm : a.g.l ≤ 1000) (hps : VrH a.c.params ps) (hwg : W32 gs) (hx : Sli (Value.int .i32) 1 a.v.n a.v.o a.v.l a.v.k a.v.c xs) (hgs : Sli (Value.int .i32) 1 a.g.n a.g.o a.g.l a.g.k a.g.c gs) : G_stat2 a := by
  have hc0 := hc
  have fv := hx.flat
  have fg := hgs.flat
  obtain ⟨⟨⟨hn0, hn1⟩, hs0, hs1⟩, hf⟩ := hc
  obtain ⟨f1, f2, f3, f4, f5, f6, f7⟩ := hf
  have a11 : a.1.1 = a.c.cells := rfl
  have a23 : a.2.3 = a.v.l := rfl
  have a33 : a.3.3 = a.g.l := rfl
  have hl : xs.length = a.v.l := by have := hx.len; omega
  have hgl2 : gs.length = a.g.l := by have := hgs.len; omega
  rw [vc_stat2]
  refine ⟨⟨trivial, hc0, ⟨ps, hps⟩, ⟨gs, hgs, hwg⟩, hgm, xs, hx⟩, by repeat' first | with_reducible apply And.intro | exact trivial | exact rfl | assumption, fun _ hq0 => ⟨⟨trivial, hc0⟩, by repeat' first | with_reducible apply And.intro | exact trivial | exact rfl | assumption, fun _ _ => ⟨⟨trivial, by omega, by omega⟩, by repeat' first | with_reducible apply And.intro | exact trivial | exact rfl | assumption, fun x2 h2 => ⟨fun hn => ?_, fun hn => ?_⟩, trivial⟩, trivial⟩, fun _ he => ⟨(), he, by repeat' first | with_reducible apply And.intro | exact trivial | exact rfl | assumption⟩, fun _ he => ⟨(), he, by repeat' first | with_reducible apply And.intro | exact trivial | exact rfl | assumption⟩, trivial⟩
  all_goals
    obtain ⟨⟨he, hgp⟩, hin⟩ := hq0
    obtain ⟨h2l, h2⟩ := h2
    have h2n := h2.len
    have hrl : (List.replicate x2.l (0 : Int)).length = x2.l := by simp
    have e49 : x2.l = a.v.l + 49 := by have : x2.1 = x2.l := rfl; omega
    have x21 : x2.1 = x2.l := rfl
  · exfalso
    have hnil := hx.nilE hn
    have e0 : a.v.l = 0 := by rw [← hl, hnil]; rfl
    omega
  · refine fun x11 e11 => ⟨?_, fun x12 e12 => ⟨⟨rfl, ?_, ?_⟩, fun x13 e13 x14 e14 => ?_⟩⟩
    · have := hx.fit hn; have : x11 = a.v.l := by omega
      rw [this]; assumption
    all_goals
      have ex : x11 = a.v.l := by omega
      subst ex
      have hw : HE .i32 x12 xs := by rw [e12]; exact hx.win hn
    · exact hw.oneK
    · have := hw.len; have : x2.2 = x2.c := rfl; rw [this]; omega
    · have hp : HE .i32 x13 (xs ++ List.replicate 49 0) := by
        rw [e13]
        have := he_lput0 h2 hw
        rwa [List.drop_replicate, hl, show x2.l - a.v.l = 49 by omega] at this
      have hpl := hp.len
      rw [List.length_append, List.length_replicate] at hpl
      have e14' : x14 = a.c.cells := by rw [e14, wrap_sm (by omega)]; omega
      refine ⟨⟨by omega, fun h => (nomatch h)⟩, fun x15 x16 x17 e15 e16 e17 => ?_⟩
      have e15' : x15 = a.v.l := by rw [e15, if_neg (by have : NwO.l x2 = x2.l := rfl; omega)]; omega
      have FIN : ∀ y14 : List Value, HE .i32 y14 (xs ++ (gs ++ List.replicate (49 - gs.length) 0)) → ∀ us vs : List Int, argsOf a.v us → argsOf a.g vs → HE .i32 y14 (us ++ (vs ++ List.replicate (49 - vs.length) 0)) := fun y h us vs hu hv => by rw [Sli.uniqI hu hx, Sli.uniqI hv hgs]; exact h
      refine ⟨fun hgt => ⟨⟨rfl, rfl, by omega⟩, fun y14 f14 => ?_⟩, fun hgf y12 f12 => ?_⟩
      · have hq : HE .i32 y14 (xs ++ (gs ++ List.replicate (49 - gs.length) 0)) := by
          rw [f14, lput_no, hgs.nilE hgt]; exact hp
        have fq := heFlat hq
        exact ⟨by repeat' first | with_reducible apply And.intro | exact trivial | exact rfl | assumption, ⟨x2.l, y14⟩, ⟨⟨⟨he, hgp⟩, e49, hin⟩, FIN _ hq⟩, by repeat' first | with_reducible apply And.intro | exact trivial | exact rfl | assumption⟩
      · have ey : y12 = a.g.l := by have : a.g.l = a.c.params.l := hgp; omega
        subst ey
        refine ⟨hgs.fit hgf, fun y13 f13 => ?_⟩
        have hgw : HE .i32 y13 gs := by rw [f13]; exact hgs.win hgf
        have hgwl := hgw.len
        have hgp' : a.g.l = a.c.params.l := hgp
        refine ⟨⟨rfl, hgw.oneK, by omega⟩, fun y14 f14 => ?_⟩
        have hq : HE .i32 y14 (xs ++ (gs ++ List.replicate (49 - gs.length) 0)) := by
          rw [f14]
          have := he_lputA hp hgw (o := x15) (by omega)
          rwa [List.drop_replicate] at this
        have fq := heFlat hq
        exact ⟨by repeat' first | with_reducible apply And.intro | exact trivial | exact rfl | assumption, ⟨x2.l, y14⟩, ⟨⟨⟨he, hgp⟩, e49, hin⟩, FIN _ hq⟩, by repeat' first | with_reducible apply And.intro | exact trivial | exact rfl | assumption⟩
theorem s_stat2 : SpecOK Tryz.prog S_stat2.spec := fun a K ⟨⟨hc, hpl, hgm⟩, ⟨xs, hx⟩, ⟨gs, hgs, hwg⟩, ps, hps⟩ hq => specD_at (an := []) envOK (cwN_ok (fun _ h => cwP_ok s_fits2 (cwD_ok s_cwrd (cwD_ok s_mnew h))) 3) (fun _ => g_stat2 a xs gs ps hc hpl hgm hps hwg hx hgs) K ⟨⟨hc, hpl, hgm⟩, ⟨xs, hx⟩, ⟨gs, hgs, hwg⟩, ps, hps⟩ hq
end Go.Proofs.YtdjnipabfbblnaaGreatDoor
end

/- A program's code: Run of play (what is to be shown). -/
section
set_option maxRecDepth 100000
namespace Go.Proofs.YtdjnipabfbblnaaGreatDoor
open Go.Ev
-- keep cdP cdF num foldI dnum frm lastC VrH inArgs Go.Ev.Sli Go.Ev.HV insAt argP rightP hasC farC stepC okAt twoC truthC W32 runC storeC manyC cells4
set_option linter.unusedSectionVars false
variable [Go.Ev.Frozen Tryz.prog]
noncomputable section
abbrev codeW (s : SA) (cs : List Int) : Prop := Sli (Value.int .i64) 4 s.n s.o s.l s.k s.c cs
def S_run2 : SpecD where
  f := 42
  α := FtA
  args a := [.pointer (some ⟨13, 0, none⟩), .int .i64 2, a.v.v (13 + 8), a.g.v (13 + 9)]
  R a := cdR a.c 13 ++ ((13 + 8, .f a.v.c 21 .gro) :: (13 + 9, .f a.g.c 21 .gro) :: globM)
  n := 13 + 10
  pre a := (cdP a.c ∧ a.c.params.l ≤ 4 ∧ a.g.l ≤ 1000 ∧ 0 ≤ a.c.m2) ∧ (∃ xs, argsOf a.v xs ∧ W32 xs) ∧ (∃ gs, argsOf a.g gs ∧ W32 gs) ∧ (∃ ps, VrH a.c.params ps) ∧ ∃ cs, codeW a.c.i2 cs
  outs := [⟨OtO, fun a b => (((a.v.l : Int) = a.c.cells ∧ a.g.l = a.c.params.l ∧ ∀ ps gs, VrH a.c.params ps → argsOf a.g gs → inArgs ps gs a.g.l) ∧ a.c.cells ≤ b.k) ∧ ∀ xs gs cs, argsOf a.v xs → argsOf a.g gs → codeW a.c.i2 cs → (lastC xs (gs ++ List.replicate (49 - gs.length) 0) cs a.c.m2).halt = 1 ∧ HE .i32 b.c ((lastC xs (gs ++ List.replicate (49 - gs.length) 0) cs a.c.m2).mem.take a.c.cells.toNat) ∧ b.p = (lastC xs (gs ++ List.replicate (49 - gs.length) 0) cs a.c.m2).mem.getD (a.c.cells + 5).toNat 0 ∧ b.q = (lastC xs (gs ++ List.replicate (49 - gs.length) 0) cs a.c.m2).mem.getD (a.c.cells + 6).toNat 0,
      fun a b => .tuple ⟨[.agg ⟨[tgS (13 + 10) 0 a.c.cells.toNat b.k, .bool false, .int .i64 0, tgI .i64 b.p, tgI .i64 b.q, .slice none 0 0, .int .i64 0]⟩, .int .i64 0]⟩, fun _ b => [(13 + 10, .f b.c 21 (.grown b.k))], fun _ _ => 13 + 11, fun v _ => renS (13 + 10) (lv (agv (lv (agv v) 0)) 0)⟩,
    ⟨Unit, fun a _ => ((a.v.l : Int) = a.c.cells ∧ a.g.l = a.c.params.l ∧ ∀ ps gs, VrH a.c.params ps → argsOf a.g gs → inArgs ps gs a.g.l) ∧ ∀ xs gs cs, argsOf a.v xs → argsOf a.g gs → codeW a.c.i2 cs → (lastC xs (gs ++ List.replicate (49 - gs.length) 0) cs a.c.m2).halt = 2, fun _ _ => outE 0 true, fun _ _ => [], fun _ _ => 13 + 11, fun _ _ => []⟩,
    ⟨Unit, fun a _ => ((a.v.l : Int) = a.c.cells ∧ a.g.l = a.c.params.l ∧ ∀ ps gs, VrH a.c.params ps → argsOf a.g gs → inArgs ps gs a.g.l) ∧ ∀ xs gs cs, argsOf a.v xs → argsOf a.g gs → codeW a.c.i2 cs → (lastC xs (gs ++ List.replicate (49 - gs.length) 0) cs a.c.m2).halt ≠ 1 ∧ (lastC xs (gs ++ List.replicate (49 - gs.length) 0) cs a.c.m2).halt ≠ 2, fun _ _ => outE 10 false, fun _ _ => [], fun _ _ => 13 + 11, fun _ _ => []⟩,
    ⟨Unit, fun a _ => ¬ ((a.v.l : Int) = a.c.cells ∧ a.g.l = a.c.params.l), fun _ _ => outE 3 false, fun _ _ => [], fun _ _ => 13 + 11, fun _ _ => []⟩,
    ⟨Unit, fun a _ => ((a.v.l : Int) = a.c.cells ∧ a.g.l = a.c.params.l) ∧ ∀ ps gs, VrH a.c.params ps → argsOf a.g gs → ¬ inArgs ps gs a.g.l, fun _ _ => outE 2 false, fun _ _ => [], fun _ _ => 13 + 11, fun _ _ => []⟩]
  pick v _ := match lv (agv v) 1 with
    | .int _ z => Int.rec (fun n => Bool.rec (ruPick v) 4 (Nat.beq n 2)) (fun _ => 0) z
    | _ => 0
  find l A := cdK A 13 (lv l 0) fun c q => saK A (13 + 8) (lv l 2) fun v q2 => saK A (13 + 9) (lv l 3) fun g q3 => some (⟨c, v, g⟩, q ++ (q2 ++ q3))
def G_run2 (a : FtA) : Prop := fnW Tryz.prog E0 (cwN (fun c => cwP 2 S_stat2 (cwP 2 S_out2 (cwD Tryz.prog S_mrun c))) 3) [] S_run2.f (S_run2.args a) (mem (S_run2.R a) S_run2.n) (endD Tryz.prog S_run2 a)
end
end Go.Proofs.YtdjnipabfbblnaaGreatDoor
end
