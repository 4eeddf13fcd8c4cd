/- The two games' beginnings (what is to be shown). -/
import Derived.Test.YthcldogebnjohaaGreatDoorYcxP
import Derived.Test.YthcldogebnjohaaGreatDoorHkD1
section
set_option maxRecDepth 100000
set_option linter.constructorNameAsVariable false
namespace Go.Proofs.YthcldogebnjohaaGreatDoor
open Go.Ev
-- keep rlF PH rollZ rollOK inAll Go.Ev.Sli Go.Ev.HV okSt cells0 cells1 cells2 cells4 cells5 cells6 cells8 cells9 cells10
structure StO where
  g : RlA
  d : D8
  b1 : RW
  b2 : RW
  b3 : RW
abbrev StO.p (b : StO) : PA := ⟨⟨false, 0, 2, b.b1.k, b.b1.c⟩, ⟨false, 0, 2, b.b2.k, b.b2.c⟩, ⟨false, 0, 2, b.b3.k, b.b3.c⟩, 0, 0, 0, 0, 0⟩
def okSt (b : StO) : Prop := rlF b.g ∧ b.g.st.l = 2 ∧ b.g.ce.l = 2 ∧ ∃ x cs, PH b.p x ∧ Sli (Value.int .i32) 2 b.g.ce.n b.g.ce.o b.g.ce.l b.g.ce.k b.g.ce.c cs ∧ inAll cs x.vars 2
set_option linter.unusedSectionVars false
variable [Go.Ev.Frozen Tryz.prog]
noncomputable section
def cwRt (T : Caller → Caller) (fs : List Nat) (c : CW) : CW := fun f args A K => Bool.rec (c f args A K) (cpo (T noCall f args A) fun p => K p.1 p.2) (memB f fs)
def hk38 : Caller → Caller := allC [pgK2, relocCall hkK14, relocCall hkD10, relocCall hkK15, hookCall hkK16, hookCall hkD11]
def rlD (a : RlA) (d : D8) (i : Nat) : List (Nat × PO) :=
  (i, .p (.row [unk, a.st.v (i + 1), tgI .u8 d.d0, tgI .u8 d.d1, tgI .u8 d.d2, tgI .u8 d.d3, tgI .u8 d.d4, tgI .u8 d.d5, tgI .u8 d.d6, tgI .u8 d.d7, unk, unk, a.ce.v (i + 2)] 107 .gro)) ::
  (i + 1, .f a.st.c 3 .gro) :: (i + 2, .f a.ce.c 127 .gro) :: []
def rlN (A : AW) (i : Nat) (v : Value) : List (Nat × Nat) := match v with
  | .pointer (some ⟨b, _, _⟩) => (i, b) :: (renS (i + 1) (lv (rowO A b) 1) ++ renS (i + 2) (lv (rowO A b) 12))
  | _ => []
def S_startW : SpecD where
  f := 5
  α := NK
  args a := [tgI .u8 a.n]
  R _ := [(0, .f cells0 323 .ro), (1, .f cells1 329 .ro), (2, .f cells2 352 .ro), (4, .f cells4 323 .ro), (5, .f cells5 364 .ro), (6, .f cells6 378 .ro), (8, .f cells8 382 .ro), (9, .f cells9 385 .ro), (10, .f cells10 386 .ro)]
  n := 12
  pre a := 0 ≤ a.n ∧ a.n < 256
  outs := [⟨StO, fun _ b => okSt b, fun _ b => .tuple ⟨[.pointer (some ⟨12, 0, none⟩), b.p.v (12 + 3)]⟩, fun _ b => rlD b.g b.d 12 ++ b.p.R (12 + 3) 41, fun _ _ => 12 + 6, fun v A => rlN A 12 (lv (agv v) 0) ++ paN (12 + 3) (agv (lv (agv v) 1))⟩]
  pick _ _ := 0
  find l _ := wI (lv l 0) fun n => some (⟨n⟩, [])
def G_startW (a : NK) : Prop := fnW Tryz.prog E0 (cwX (fun c => cwRt hk38 [23, 74, 25, 26] c) 4) [] S_startW.f (S_startW.args a) (mem (S_startW.R a) S_startW.n) (endD Tryz.prog S_startW a)
end
end Go.Proofs.YthcldogebnjohaaGreatDoor
end

/- The two games' beginnings are what is told of them. -/
section
set_option maxRecDepth 100000
set_option linter.constructorNameAsVariable false
namespace Go.Proofs.YthcldogebnjohaaGreatDoor
open Go.Ev
set_option linter.unusedSectionVars false
variable [Go.Ev.Frozen Tryz.prog]
noncomputable section
def W_G_startW_0 : Option AO := Option.some (AO.row [Value.pointer (Option.some (Addr.mk (Nat.add (2 : Nat) (Nat.add (Nat.succ (Nat.succ (nat_lit 12))) (3133 : Nat))) (0 : Nat) Option.none)), Value.pointer
(Option.some (Addr.mk (Nat.add (4 : Nat) (Nat.add (Nat.succ (Nat.succ (nat_lit 12))) (3133 : Nat))) (0 : Nat) Option.none))] (65 : Nat) Md.own)
def W_G_startW_1 : Option AO := Option.some (AO.row [Value.pointer (Option.some (Addr.mk (Nat.add (2 : Nat) (Nat.add (Nat.succ (Nat.succ (nat_lit 12))) (2714 : Nat))) (0 : Nat) Option.none)), Value.pointer
(Option.some (Addr.mk (Nat.add (4 : Nat) (Nat.add (Nat.succ (Nat.succ (nat_lit 12))) (2714 : Nat))) (0 : Nat) Option.none))] (65 : Nat) Md.own)
end
theorem vc_startW (a : NK) : G_startW a = ((2 : Int) ≠ (0 : Int) ∧ ∀ (x0 : Int), x0 = Int.tmod a.1 (2 : Int) → ((0 : Int) ≤ x0 ∧ x0 < (2 : Int)) ∧ (x0 = (0 : Int) → (True ∧ True ∧ True ∧ True ∧ True ∧ True ∧ True ∧ True ∧
True ∧ True ∧ True) ∧ (True ∧ True ∧ True ∧ True ∧ True ∧ True ∧ True ∧ True ∧ True ∧ True ∧ True) ∧ ((True ∧ True ∧ True ∧ True) ∧ True ∧ True ∧ True ∧ (True ∧ True) ∧
(W_G_startW_0 = W_G_startW_0 ∧ True) ∧ True ∧ True ∧ True ∧ True ∧ True ∧ (True ∧ True) ∧ (True ∧ True ∧ True ∧ True ∧ True ∧ True) ∧ True ∧ True ∧ True) ∧ (True ∧ True ∧ True ∧
True ∧ True) ∧ ∃ (x1 : StO), (rlF x1.1 ∧ x1.1.1.3 = (2 : Nat) ∧ x1.1.2.3 = (2 : Nat) ∧ ∃ (x2 : PX), ∃ (x3 : List Int), PH (PA.mk (SA.mk Bool.false (0 : Nat) (2 : Nat) x1.3.1
x1.3.2) (SA.mk Bool.false (0 : Nat) (2 : Nat) x1.4.1 x1.4.2) (SA.mk Bool.false (0 : Nat) (2 : Nat) x1.5.1 x1.5.2) (0 : Int) (0 : Int) (0 : Int) (0 : Int) (0 : Int)) x2 ∧ Sli
(Value.int IntKind.i32) (2 : Nat) x1.1.2.1 x1.1.2.2 x1.1.2.3 x1.1.2.4 x1.1.2.5 x3 ∧ inAll x3 x2.1 (2 : Nat)) ∧ ((0 : Nat) = (0 : Nat) ∧ ((Bool.false = Bool.false ∧ nat_lit 0 = (0 :
Nat) ∧ nat_lit 2 = (2 : Nat) ∧ x1.3.1 = (2 : Nat)) ∧ (Bool.false = Bool.false ∧ nat_lit 0 = (0 : Nat) ∧ nat_lit 2 = (2 : Nat) ∧ x1.4.1 = (2 : Nat)) ∧ (Bool.false = Bool.false ∧
nat_lit 0 = (0 : Nat) ∧ nat_lit 2 = (2 : Nat) ∧ x1.5.1 = (2 : Nat)) ∧ Int.ofNat (0 : Nat) = (0 : Int) ∧ Int.ofNat (0 : Nat) = (0 : Int) ∧ Int.ofNat (0 : Nat) = (0 : Int) ∧
Int.ofNat (0 : Nat) = (0 : Int) ∧ Int.ofNat (0 : Nat) = (0 : Int) ∧ True) ∧ True) ∧ (True ∧ True ∧ (x1.1.1.1 = Bool.false ∧ x1.1.1.2 = (0 : Nat) ∧ x1.1.1.3 = (2 : Nat) ∧ x1.1.1.4 =
(2 : Nat)) ∧ x1.2.1 = (158 : Int) ∧ x1.2.2 = (99 : Int) ∧ x1.2.3 = (237 : Int) ∧ x1.2.4 = (163 : Int) ∧ x1.2.5 = (205 : Int) ∧ x1.2.6 = (22 : Int) ∧ x1.2.7 = (140 : Int) ∧ x1.2.8 =
(84 : Int) ∧ True ∧ True ∧ (x1.1.2.1 = Bool.false ∧ x1.1.2.2 = (0 : Nat) ∧ x1.1.2.3 = (2 : Nat) ∧ x1.1.2.4 = (2 : Nat)) ∧ True) ∧ (True ∧ FlatL x1.1.1.5 ∧ x1.1.1.5 = [Value.int
IntKind.i64 (1 : Int), Value.int IntKind.i64 (1 : Int)]) ∧ (True ∧ FlatL x1.1.2.5 ∧ x1.1.2.5 = List.map (fun (y4 : Nat) => Value.int IntKind.i32 (Int.ofNat y4)) [(0 : Nat), (9 :
Nat), (0 : Nat), (1 : Nat)]) ∧ (True ∧ FlatL x1.3.2 ∧ x1.3.2 = [Value.int IntKind.i32 (5 : Int), Value.int IntKind.i32 (0 : Int)]) ∧ (True ∧ FlatL x1.4.2 ∧ x1.4.2 = [Value.bool
Bool.false, Value.bool Bool.false]) ∧ (True ∧ FlatL x1.5.2 ∧ x1.5.2 = List.map (fun (y5 : Nat) => Value.int IntKind.u8 (Int.ofNat y5)) [(84 : Nat), (20 : Nat), (162 : Nat), (125 :
Nat), (185 : Nat), (95 : Nat), (193 : Nat), (130 : Nat), (195 : Nat), (192 : Nat), (90 : Nat), (36 : Nat), (52 : Nat), (89 : Nat), (115 : Nat), (35 : Nat)]) ∧ True) ∧ (x0 = (1 :
Int) → (True ∧ True ∧ True ∧ True ∧ True ∧ True ∧ True ∧ True ∧ True ∧ True ∧ True) ∧ (True ∧ True ∧ True ∧ True ∧ True ∧ True ∧ True ∧ True ∧ True ∧ True ∧ True) ∧ ((True ∧ True ∧
True ∧ True) ∧ True ∧ True ∧ True ∧ (True ∧ True) ∧ (W_G_startW_1 = W_G_startW_1 ∧ True) ∧ True ∧ True ∧ True ∧ True ∧ True ∧ (True ∧ True) ∧ (True ∧ True ∧ True ∧ True ∧ True ∧
True) ∧ True ∧ True ∧ True) ∧ (True ∧ True ∧ True ∧ True ∧ True) ∧ ∃ (x6 : StO), (rlF x6.1 ∧ x6.1.1.3 = (2 : Nat) ∧ x6.1.2.3 = (2 : Nat) ∧ ∃ (x7 : PX), ∃ (x8 : List Int), PH (PA.mk
(SA.mk Bool.false (0 : Nat) (2 : Nat) x6.3.1 x6.3.2) (SA.mk Bool.false (0 : Nat) (2 : Nat) x6.4.1 x6.4.2) (SA.mk Bool.false (0 : Nat) (2 : Nat) x6.5.1 x6.5.2) (0 : Int) (0 : Int)
(0 : Int) (0 : Int) (0 : Int)) x7 ∧ Sli (Value.int IntKind.i32) (2 : Nat) x6.1.2.1 x6.1.2.2 x6.1.2.3 x6.1.2.4 x6.1.2.5 x8 ∧ inAll x8 x7.1 (2 : Nat)) ∧ ((0 : Nat) = (0 : Nat) ∧
((Bool.false = Bool.false ∧ nat_lit 0 = (0 : Nat) ∧ nat_lit 2 = (2 : Nat) ∧ x6.3.1 = (2 : Nat)) ∧ (Bool.false = Bool.false ∧ nat_lit 0 = (0 : Nat) ∧ nat_lit 2 = (2 : Nat) ∧ x6.4.1
= (2 : Nat)) ∧ (Bool.false = Bool.false ∧ nat_lit 0 = (0 : Nat) ∧ nat_lit 2 = (2 : Nat) ∧ x6.5.1 = (2 : Nat)) ∧ Int.ofNat (0 : Nat) = (0 : Int) ∧ Int.ofNat (0 : Nat) = (0 : Int) ∧
Int.ofNat (0 : Nat) = (0 : Int) ∧ Int.ofNat (0 : Nat) = (0 : Int) ∧ Int.ofNat (0 : Nat) = (0 : Int) ∧ True) ∧ True) ∧ (True ∧ True ∧ (x6.1.1.1 = Bool.false ∧ x6.1.1.2 = (0 : Nat) ∧
x6.1.1.3 = (2 : Nat) ∧ x6.1.1.4 = (2 : Nat)) ∧ x6.2.1 = (218 : Int) ∧ x6.2.2 = (47 : Int) ∧ x6.2.3 = (45 : Int) ∧ x6.2.4 = (74 : Int) ∧ x6.2.5 = (149 : Int) ∧ x6.2.6 = (253 : Int)
∧ x6.2.7 = (130 : Int) ∧ x6.2.8 = (124 : Int) ∧ True ∧ True ∧ (x6.1.2.1 = Bool.false ∧ x6.1.2.2 = (0 : Nat) ∧ x6.1.2.3 = (2 : Nat) ∧ x6.1.2.4 = (2 : Nat)) ∧ True) ∧ (True ∧ FlatL
x6.1.1.5 ∧ x6.1.1.5 = [Value.int IntKind.i64 (1 : Int), Value.int IntKind.i64 (1 : Int)]) ∧ (True ∧ FlatL x6.1.2.5 ∧ x6.1.2.5 = List.map (fun (y9 : Nat) => Value.int IntKind.i32
(Int.ofNat y9)) [(0 : Nat), (6 : Nat), (0 : Nat), (1 : Nat)]) ∧ (True ∧ FlatL x6.3.2 ∧ x6.3.2 = [Value.int IntKind.i32 (0 : Int), Value.int IntKind.i32 (0 : Int)]) ∧ (True ∧ FlatL
x6.4.2 ∧ x6.4.2 = [Value.bool Bool.false, Value.bool Bool.false]) ∧ (True ∧ FlatL x6.5.2 ∧ x6.5.2 = List.map (fun (y10 : Nat) => Value.int IntKind.u8 (Int.ofNat y10)) [(84 : Nat),
(20 : Nat), (162 : Nat), (125 : Nat), (185 : Nat), (95 : Nat), (193 : Nat), (130 : Nat), (195 : Nat), (192 : Nat), (90 : Nat), (36 : Nat), (52 : Nat), (89 : Nat), (115 : Nat), (35
: Nat)]) ∧ True) ∧ True) := by kernel_rfl
theorem cwRt_ok {T : Caller → Caller} (hT : HookOK Tryz.prog T) {fs : List Nat} {c : CW} (h : CwOK Tryz.prog c) : CwOK Tryz.prog (cwRt T fs c) := fun f args A K hk => by
  have hk : (Bool.rec (c f args A K) (cpo (T noCall f args A) fun p => K p.1 p.2) (memB f fs) : Prop) := hk
  cases hb : memB f fs with
  | false => rw [hb] at hk; exact h f args A K hk
  | true => rw [hb] at hk; exact cw_call (hT _ noCall_ok) f args A K hk
theorem hk38_ok : HookOK Tryz.prog hk38 := allC_cons pgK2_ok (allC_cons hkK14_ok (allC_cons hkD10_ok (allC_cons hkK15_ok (allC_cons hkK16_ok (allC_cons hkD11_ok allC_nil)))))
theorem hw_map {α : Type} {f : α → Value} (xs : List α) : HW f (xs.map f) xs := ⟨by simp, fun i x h => by
  left; rw [Nat.zero_add, List.getElem?_map, h]; rfl⟩
def tips38 : List Int := [84, 20, 162, 125, 185, 95, 193, 130, 195, 192, 90, 36, 52, 89, 115, 35]
def stO (c v : Int) (d : D8) : StO := ⟨⟨⟨false, 0, 2, 2, [1, 1].map (Value.int .i64)⟩, ⟨false, 0, 2, 2, [0, c, 0, 1].map (Value.int .i32)⟩⟩, d, ⟨2, [v, 0].map (Value.int .i32)⟩, ⟨2, [false, false].map Value.bool⟩, ⟨2, tips38.map (Value.int .u8)⟩⟩
theorem ok_stO {c v : Int} {d : D8} (h : 0 ≤ v ∧ v ≤ c) : okSt (stO c v d) := by
  have sl : ∀ {k : IntKind} {xs : List Int} {sz l kk : Nat}, xs.length = l * sz → l ≤ kk → Sli (Value.int k) sz false 0 l kk (xs.map (Value.int k)) xs := fun hl hk => Sli.row (hw_map _) hl hk (hw_map _).flat
  refine ⟨⟨(hw_map (f := Value.int .i64) [1, 1]).flat, (hw_map (f := Value.int .i32) [0, c, 0, 1]).flat⟩, rfl, rfl, ⟨[v, 0], [false, false], tips38⟩, [0, c, 0, 1], ⟨sl rfl (Nat.le_refl _), Sli.row (hw_map _) rfl (Nat.le_refl _) (hw_map (f := Value.bool) _).flatB, sl rfl (Nat.le_refl _)⟩, sl rfl (Nat.le_refl _), fun i hi => ?_⟩
  have : i = 0 ∨ i = 1 := by omega
  rcases this with e | e <;> subst e
  · exact ⟨h.1, h.2⟩
  · exact ⟨Int.le_refl 0, (by decide : (0 : Int) ≤ 1)⟩
theorem g_startW (a : NK) (h : 0 ≤ a.n ∧ a.n < 256) : GW (G_startW a) := by
  have hf : ∀ c v d, 0 ≤ v ∧ v ≤ c → (FlatL (stO c v d).g.st.c ∧ FlatL (stO c v d).g.ce.c) ∧ (FlatL (stO c v d).b1.c ∧ FlatL (stO c v d).b2.c ∧ FlatL (stO c v d).b3.c) := fun c v d hv => by
    obtain ⟨h1, -, -, x, cs, hp, -⟩ := ok_stO (d := d) hv
    exact ⟨h1, hp.p1.flat, hp.p2.flat, hp.p3.flat⟩
  obtain ⟨⟨p1, p2⟩, p3, p4, p5⟩ := hf 9 5 ⟨158, 99, 237, 163, 205, 22, 140, 84⟩ (by decide)
  obtain ⟨⟨q1, q2⟩, q3, q4, q5⟩ := hf 6 0 ⟨218, 47, 45, 74, 149, 253, 130, 124⟩ (by decide)
  refine ⟨?_⟩
  rw [vc_startW]
  refine ⟨by decide, fun x0 e0 => ⟨?_, fun _ => ?_, fun _ => ?_, trivial⟩⟩
  · rw [e0, Int.tmod_eq_emod_of_nonneg h.1]; omega
  · refine ⟨by (repeat' first | with_reducible apply And.intro | exact trivial | with_reducible assumption | with_reducible rfl | exact rfl), by (repeat' first | with_reducible apply And.intro | exact trivial | with_reducible assumption | with_reducible rfl | exact rfl), by (repeat' first | with_reducible apply And.intro | exact trivial | with_reducible assumption | with_reducible rfl | exact rfl), by (repeat' first | with_reducible apply And.intro | exact trivial | with_reducible assumption | with_reducible rfl | exact rfl), stO 9 5 ⟨158, 99, 237, 163, 205, 22, 140, 84⟩, ok_stO (by decide), ?_⟩
    (repeat' first | with_reducible apply And.intro | exact trivial | with_reducible assumption | with_reducible rfl | exact rfl)
  · refine ⟨by (repeat' first | with_reducible apply And.intro | exact trivial | with_reducible assumption | with_reducible rfl | exact rfl), by (repeat' first | with_reducible apply And.intro | exact trivial | with_reducible assumption | with_reducible rfl | exact rfl), by (repeat' first | with_reducible apply And.intro | exact trivial | with_reducible assumption | with_reducible rfl | exact rfl), by (repeat' first | with_reducible apply And.intro | exact trivial | with_reducible assumption | with_reducible rfl | exact rfl), stO 6 0 ⟨218, 47, 45, 74, 149, 253, 130, 124⟩, ok_stO (by decide), ?_⟩
    (repeat' first | with_reducible apply And.intro | exact trivial | with_reducible assumption | with_reducible rfl | exact rfl)
theorem s_startW : SpecOK Tryz.prog S_startW.spec := fun a => specG_at (an := []) envOK (cwX_ok (fun _ h => cwRt_ok hk38_ok h) 4) fun hp => g_startW a hp
end Go.Proofs.YthcldogebnjohaaGreatDoor
end

/- The law of what can't be begun (what is to be shown). -/
section
set_option maxRecDepth 100000
set_option linter.constructorNameAsVariable false
namespace Go.Proofs.YthcldogebnjohaaGreatDoor
open Go.Ev
-- keep rlF PH rollZ rollOK inAll Go.Ev.Sli Go.Ev.HV okSt sumC rightP inRt okNw goodS cond3 cond2 cond22 RollsEq wantR cells0 cells1 cells2 cells4 cells5 cells6 cells8 cells9 cells10
def goodS (a : NwA) : Prop := a.s.l = a.g.st.l ∧ ∀ xs, Sli (Value.int .i64) 1 a.s.n a.s.o a.s.l a.s.k a.s.c xs → inRt xs ∧ rightP (sumC xs)
def cond3 (a : NwA) : Prop := a.s.l ≠ a.g.st.l
def cond2 (a : NwA) : Prop := a.s.l = a.g.st.l ∧ ∀ xs, Sli (Value.int .i64) 1 a.s.n a.s.o a.s.l a.s.k a.s.c xs → ¬ inRt xs
def cond22 (a : NwA) : Prop := a.s.l = a.g.st.l ∧ ∀ xs, Sli (Value.int .i64) 1 a.s.n a.s.o a.s.l a.s.k a.s.c xs → inRt xs ∧ ¬ rightP (sumC xs)
def wantR (l : List Int) : Int := l.foldl (fun w x => if 0 ≤ x ∧ x ≤ 1125899906842624 then w else 2) 0
structure NnA where
  w : Int
  s : SA
  n : Int
structure NnL where
  b : StO
  o : NwO
  k : Int
  z : Int
structure NnJ where
  b : StO
  o : NwO
structure NnQ where
  b : StO
  o : NwO
  n : Nat
  k : Nat
  c : List Value
  b2 : RW
  b3 : RW
abbrev NnQ.p (e : NnQ) : PA := ⟨⟨false, 0, e.n, e.k, e.c⟩, ⟨false, 0, 2, e.b2.k, e.b2.c⟩, ⟨false, 0, 2, e.b3.k, e.b3.c⟩, 0, 0, 0, 0, 0⟩
structure NnM where
  b : StO
  k : Int
  q : Int
  z : Int
set_option linter.unusedSectionVars false
variable [Go.Ev.Frozen Tryz.prog]
noncomputable section
def okL (l : List Value) : Bool := match lv l 0 with
  | .pointer (some _) => true
  | _ => false
def mnL (l : List Value) : Bool := match lv (agv (lv l 1)) 0 with
  | .iface _ (.agg _) => true
  | _ => false
def isA (l : List Value) : Bool := okL l && mnL l
def isF (l : List Value) : Bool := okL l && bnot (mnL l)
def cwT2 (S : SpecD) (t : List Value → Bool) (cw : CW) : CW := fun f args A K => Bool.rec (cw f args A K) (callD Tryz.prog S (fun _ => True) args A K) (Nat.beq f S.f && t args)
def S_newA : SpecD := { S_new with
  pre := fun (a : NwA) => (rlF a.g ∧ okNw a ∧ (a.p.s1.l ≤ 1000 ∧ a.p.s2.l ≤ 1000 ∧ a.p.s3.l ≤ 1000) ∧ (∃ xs, Sli (Value.int .i64) 1 a.s.n a.s.o a.s.l a.s.k a.s.c xs) ∧ a.s.l ≤ 1000) ∧ a.p.s1.l = a.g.ce.l ∧ goodS a
  outs := [⟨NwO, fun (a : NwA) o => (∀ xs, Sli (Value.int .i64) 1 a.s.n a.s.o a.s.l a.s.k a.s.c xs → Sli (Value.int .i64) 1 a.s.n 0 a.s.l o.s.k o.s.c xs) ∧ ∀ x, PH a.p x → PH (o.pa a.p) x,
      fun _ _ => .tuple ⟨[.pointer (some ⟨12 + 7, 0, none⟩), .int .i64 0]⟩, fun a o => stR 12 (12 + 7) (o.pa a.p) (o.sa a.s), fun _ _ => 12 + 13, fun v A => stN (12 + 7) v A⟩]
  pick := fun _ _ => 0 }
def S_new3 : SpecD := { S_new with
  pre := fun (a : NwA) => (rlF a.g ∧ okNw a ∧ (a.p.s1.l ≤ 1000 ∧ a.p.s2.l ≤ 1000 ∧ a.p.s3.l ≤ 1000) ∧ (∃ xs, Sli (Value.int .i64) 1 a.s.n a.s.o a.s.l a.s.k a.s.c xs) ∧ a.s.l ≤ 1000) ∧ a.p.s1.l = a.g.ce.l ∧ cond3 a
  outs := [⟨Unit, fun (_ : NwA) _ => True, fun _ _ => errNw 3, fun _ _ => [], fun _ _ => 12 + 7, fun _ _ => []⟩]
  pick := fun _ _ => 0 }
def S_new2 : SpecD := { S_new with
  pre := fun (a : NwA) => (rlF a.g ∧ okNw a ∧ (a.p.s1.l ≤ 1000 ∧ a.p.s2.l ≤ 1000 ∧ a.p.s3.l ≤ 1000) ∧ (∃ xs, Sli (Value.int .i64) 1 a.s.n a.s.o a.s.l a.s.k a.s.c xs) ∧ a.s.l ≤ 1000) ∧ a.p.s1.l = a.g.ce.l ∧ cond2 a
  outs := [⟨Unit, fun (_ : NwA) _ => True, fun _ _ => errNw 2, fun _ _ => [], fun _ _ => 12 + 7, fun _ _ => []⟩]
  pick := fun _ _ => 0 }
def S_new22 : SpecD := { S_new with
  pre := fun (a : NwA) => (rlF a.g ∧ okNw a ∧ (a.p.s1.l ≤ 1000 ∧ a.p.s2.l ≤ 1000 ∧ a.p.s3.l ≤ 1000) ∧ (∃ xs, Sli (Value.int .i64) 1 a.s.n a.s.o a.s.l a.s.k a.s.c xs) ∧ a.s.l ≤ 1000) ∧ a.p.s1.l = a.g.ce.l ∧ cond22 a
  outs := [⟨Unit, fun (_ : NwA) _ => True, fun _ _ => errNw 22, fun _ _ => [], fun _ _ => 12 + 7, fun _ _ => []⟩]
  pick := fun _ _ => 0 }
def S_newF : SpecD := { S_new with
  pre := fun (a : NwA) => (rlF a.g ∧ okNw a ∧ (a.p.s1.l ≤ 1000 ∧ a.p.s2.l ≤ 1000 ∧ a.p.s3.l ≤ 1000) ∧ (∃ xs, Sli (Value.int .i64) 1 a.s.n a.s.o a.s.l a.s.k a.s.c xs) ∧ a.s.l ≤ 1000) ∧ a.p.s1.l ≠ a.g.ce.l
  outs := [⟨Unit, fun (_ : NwA) _ => True, fun _ _ => errNw 3, fun _ _ => [], fun _ _ => 12 + 7, fun _ _ => []⟩]
  pick := fun _ _ => 0 }
def S_gsameT : SpecD := { S_gsame with
  pre := fun (a : P2G) => (((∃ x, PH a.a x) ∧ ∃ x, PH a.b x) ∧ ((a.a.s1.l ≤ 1000 ∧ a.a.s2.l ≤ 1000 ∧ a.a.s3.l ≤ 1000) ∧ (a.b.s1.l ≤ 1000 ∧ a.b.s2.l ≤ 1000 ∧ a.b.s3.l ≤ 1000))) ∧ (∃ x, PH a.a x ∧ PH a.b x) ∧ RollsEq a.a a.b
  outs := [⟨Unit, fun (_ : P2G) _ => True, fun _ _ => .bool true, fun _ _ => [], fun _ _ => 12 + 6, fun _ _ => []⟩]
  pick := fun _ _ => 0 }
def S_known : SpecD where
  f := 4
  α := Unit
  args _ := []
  R _ := [(0, .f cells0 323 .ro), (1, .f cells1 329 .ro), (2, .f cells2 352 .ro), (4, .f cells4 323 .ro), (5, .f cells5 364 .ro), (6, .f cells6 378 .ro), (8, .f cells8 382 .ro), (9, .f cells9 385 .ro), (10, .f cells10 386 .ro)]
  n := 12
  pre _ := True
  outs := [⟨Unit, fun _ _ => True, fun _ _ => .bool true, fun _ _ => [], fun _ _ => 12, fun _ _ => []⟩]
  pick _ _ := 0
  find _ _ := some ((), [])
def rwN (a : NnA) (b : StO) : List (Nat × PO) := (12, .f a.s.c 3 .gro) :: (rlD b.g b.d (12 + 1) ++ (b.p.R (12 + 4) 41 ++
  [(12 + 7, .p (.row (b.p.s1.v (12 + 4) :: b.p.s2.v (12 + 5) :: b.p.s3.v (12 + 6) :: rolls b.p) 32 .own))]))
def stP (i : Nat) (v : Value) (A : AW) : List (Nat × Nat) := match v with
  | .pointer (some ⟨b, _, _⟩) => (i, b) :: (match lv (rowO A b) 0 with
    | .slice (some ⟨c, _, _⟩) _ _ => (i + 1, c) :: (paN (i + 2) ((rowO A c).drop 1) ++ renS (i + 5) (lv (rowO A c) 9))
    | _ => [])
  | _ => []
def bxN (i j : Nat) (v : Value) (A : AW) : List (Nat × Nat) := match v with
  | .pointer (some ⟨b, _, _⟩) => (i, b) :: paN j (rowO A b)
  | _ => []
def la_noneA (a : NnA) (xs : List Int) : LA where
  α := NnL
  at_ e := ⟨[(1, a.s.v 12), (2, tgI .i32 a.n), (7, .pointer (some ⟨12 + 1, 0, none⟩)), (8, .pointer (some ⟨12 + 7, 0, none⟩)), (9, .pointer (some ⟨12 + 8, 0, none⟩)), (10, .int .i64 0), (11, .int .i64 0), (12, tgI .i64 e.z),
    (51, a.s.v 12), (52, tgI .i64 a.s.l), (53, tgI .i64 e.k)], rwN a e.b ++ stR (12 + 1) (12 + 8) (e.o.pa e.b.p) (e.o.sa a.s), 12 + 14⟩
  J e := ((0 ≤ e.k ∧ e.k ≤ a.s.l) ∧ e.z = sumC (xs.take e.k.toNat)) ∧ okSt e.b ∧ (∀ x, PH e.b.p x → PH (e.o.pa e.b.p) x) ∧ Sli (Value.int .i64) 1 a.s.n 0 a.s.l e.o.s.k e.o.s.c xs
  μ e := (a.s.l - e.k).toNat
  ren s := rlN s.A (12 + 1) (tv s 7) ++ (bxN (12 + 7) (12 + 4) (tv s 8) s.A ++ stP (12 + 8) (tv s 9) s.A)
def jA18 (a : NnA) (xs : List Int) : JA where
  β := NnJ
  at_ e := ⟨[(1, a.s.v 12), (2, tgI .i32 a.n), (7, .pointer (some ⟨12 + 1, 0, none⟩)), (8, .pointer (some ⟨12 + 7, 0, none⟩)), (9, .pointer (some ⟨12 + 8, 0, none⟩)), (10, .int .i64 0), (11, .int .i64 0)],
    rwN a e.b ++ stR (12 + 1) (12 + 8) (e.o.pa e.b.p) (e.o.sa a.s), 12 + 14⟩
  J e := okSt e.b ∧ (∀ x, PH e.b.p x → PH (e.o.pa e.b.p) x) ∧ Sli (Value.int .i64) 1 a.s.n 0 a.s.l e.o.s.k e.o.s.c xs
  ren s := rlN s.A (12 + 1) (tv s 7) ++ (bxN (12 + 7) (12 + 4) (tv s 8) s.A ++ stP (12 + 8) (tv s 9) s.A)
def jA20 (a : NnA) (xs : List Int) : JA where
  β := NnQ
  at_ e := ⟨[(1, a.s.v 12), (7, .pointer (some ⟨12 + 1, 0, none⟩)), (8, .pointer (some ⟨12 + 7, 0, none⟩)), (9, .pointer (some ⟨12 + 8, 0, none⟩)), (10, .int .i64 0), (11, .int .i64 0), (15, .pointer (some ⟨12 + 14, 0, none⟩))],
    rwN a e.b ++ (stR (12 + 1) (12 + 8) (e.o.pa e.b.p) (e.o.sa a.s) ++ [(12 + 14, .p (.row (tgS (12 + 15) 0 e.n e.k :: e.p.s2.v (12 + 16) :: e.p.s3.v (12 + 17) :: rolls e.p) 32 .own)),
      (12 + 15, .f e.c 21 (.grown e.k)), (12 + 16, .f e.b2.c 4 (.grown e.b2.k)), (12 + 17, .f e.b3.c 41 (.grown e.b3.k))]), 12 + 18⟩
  J e := (okSt e.b ∧ (∀ x, PH e.b.p x → PH (e.o.pa e.b.p) x) ∧ Sli (Value.int .i64) 1 a.s.n 0 a.s.l e.o.s.k e.o.s.c xs) ∧ okNw ⟨e.b.g, e.p, a.s⟩ ∧ e.n ≠ e.b.g.ce.l ∧ e.n ≤ 1000
  ren s := rlN s.A (12 + 1) (tv s 7) ++ (bxN (12 + 7) (12 + 4) (tv s 8) s.A ++ (stP (12 + 8) (tv s 9) s.A ++ bxN (12 + 14) (12 + 15) (tv s 15) s.A))
def S_noneA : SpecD where
  f := 3
  α := NnA
  args a := [tgI .u8 a.w, a.s.v 12, tgI .i32 a.n]
  R a := (12, .f a.s.c 3 .gro) :: [(0, .f cells0 323 .ro), (1, .f cells1 329 .ro), (2, .f cells2 352 .ro), (4, .f cells4 323 .ro), (5, .f cells5 364 .ro), (6, .f cells6 378 .ro), (8, .f cells8 382 .ro), (9, .f cells9 385 .ro), (10, .f cells10 386 .ro)]
  n := 12 + 1
  pre a := (0 ≤ a.w ∧ a.w < 256) ∧ a.s.l = 2 ∧ ∃ xs, Sli (Value.int .i64) 1 a.s.n a.s.o a.s.l a.s.k a.s.c xs ∧ inRt xs ∧ rightP (sumC xs)
  outs := [⟨Unit, fun _ _ => True, fun _ _ => .bool true, fun _ _ => [], fun _ _ => 12 + 1, fun _ _ => []⟩]
  pick _ _ := 0
  find _ _ := none
def G_noneA (a : NnA) (xs : List Int) : Prop := fnW Tryz.prog E0 (cwX (fun c => cwD Tryz.prog S_known (cwD Tryz.prog S_startW (cwT2 S_newA isA (cwT2 S_newF isF (cwD Tryz.prog S_eqlsame (cwD Tryz.prog S_gsameT (cwD Tryz.prog S_clonex (cwD Tryz.prog S_clint c)))))))) 5) [some (la_noneA a xs), some (joins [(18, jA18 a xs), (20, jA20 a xs)])] S_noneA.f (S_noneA.args a) (mem (S_noneA.R a) S_noneA.n) (endD Tryz.prog S_noneA a)
def nnS (a : NnA) (e : NnM) (er : Int) (q : Value) (sl : List (Nat × Value)) : MS := ⟨[(1, a.s.v 12), (2, tgI .i32 a.n), (7, .pointer (some ⟨12 + 1, 0, none⟩)), (8, .pointer (some ⟨12 + 7, 0, none⟩)), (9, .pointer none), (10, .int .i64 er), (11, q), (12, tgI .i64 e.z)] ++ sl, rwN a e.b, 12 + 8⟩
def nnR (s : St) : List (Nat × Nat) := rlN s.A (12 + 1) (tv s 7) ++ bxN (12 + 7) (12 + 4) (tv s 8) s.A
def j183 (a : NnA) : JA where
  β := StO
  at_ b := ⟨[(1, a.s.v 12), (2, tgI .i32 a.n), (7, .pointer (some ⟨12 + 1, 0, none⟩)), (8, .pointer (some ⟨12 + 7, 0, none⟩)), (9, .pointer none), (10, .int .i64 3), (11, .int .i64 3)], rwN a b, 12 + 8⟩
  J b := okSt b
  ren := nnR
def j182 (a : NnA) : JA where
  β := StO
  at_ b := ⟨[(1, a.s.v 12), (2, tgI .i32 a.n), (7, .pointer (some ⟨12 + 1, 0, none⟩)), (8, .pointer (some ⟨12 + 7, 0, none⟩)), (9, .pointer none), (10, .int .i64 2), (11, .int .i64 2)], rwN a b, 12 + 8⟩
  J b := okSt b
  ren := nnR
def j1822 (a : NnA) : JA where
  β := StO
  at_ b := ⟨[(1, a.s.v 12), (2, tgI .i32 a.n), (7, .pointer (some ⟨12 + 1, 0, none⟩)), (8, .pointer (some ⟨12 + 7, 0, none⟩)), (9, .pointer none), (10, .int .i64 22), (11, .int .i64 22)], rwN a b, 12 + 8⟩
  J b := okSt b
  ren := nnR
def jX2 (a : NnA) : JA where
  β := NnM
  at_ e := nnS a e 2 (.int .i64 2) []
  J e := okSt e.b
  ren := nnR
def la_none3 (a : NnA) (xs : List Int) : LA where
  α := NnM
  at_ e := nnS a e 3 (tgI .i64 e.q) [(51, a.s.v 12), (52, tgI .i64 a.s.l), (53, tgI .i64 e.k)]
  J e := ((0 ≤ e.k ∧ e.k ≤ a.s.l) ∧ True) ∧ okSt e.b
  μ e := (a.s.l - e.k).toNat
  ren := nnR
  xt := none
def S_none3 : SpecD := { S_noneA with
  pre := fun (a : NnA) => (0 ≤ a.w ∧ a.w < 256) ∧ ∃ xs, Sli (Value.int .i64) 1 a.s.n a.s.o a.s.l a.s.k a.s.c xs ∧ a.s.l ≠ 2 }
def G_none3 (a : NnA) (xs : List Int) : Prop := fnW Tryz.prog E0 (cwX (fun c => cwD Tryz.prog S_known (cwD Tryz.prog S_startW (cwT2 S_new3 isA (cwT2 S_newF isF (cwD Tryz.prog S_eqlsame (cwD Tryz.prog S_gsame (cwD Tryz.prog S_clonex (cwD Tryz.prog S_clint c)))))))) 5) [some (la_none3 a xs), some (joins [(18, j183 a)])] S_none3.f (S_none3.args a) (mem (S_none3.R a) S_none3.n) (endD Tryz.prog S_none3 a)
def la_none2 (a : NnA) (xs : List Int) : LA where
  α := NnM
  at_ e := nnS a e 2 (tgI .i64 e.q) [(51, a.s.v 12), (52, tgI .i64 a.s.l), (53, tgI .i64 e.k)]
  J e := ((0 ≤ e.k ∧ e.k ≤ a.s.l) ∧ e.q = wantR (xs.take e.k.toNat)) ∧ okSt e.b
  μ e := (a.s.l - e.k).toNat
  ren := nnR
  xt := (some (0, jX2 a))
def S_none2 : SpecD := { S_noneA with
  pre := fun (a : NnA) => (0 ≤ a.w ∧ a.w < 256) ∧ ∃ xs, Sli (Value.int .i64) 1 a.s.n a.s.o a.s.l a.s.k a.s.c xs ∧ a.s.l = 2 ∧ ¬ inRt xs }
def G_none2 (a : NnA) (xs : List Int) : Prop := fnW Tryz.prog E0 (cwX (fun c => cwD Tryz.prog S_known (cwD Tryz.prog S_startW (cwT2 S_new2 isA (cwT2 S_newF isF (cwD Tryz.prog S_eqlsame (cwD Tryz.prog S_gsame (cwD Tryz.prog S_clonex (cwD Tryz.prog S_clint c)))))))) 5) [some (la_none2 a xs), some (joins [(18, j182 a)])] S_none2.f (S_none2.args a) (mem (S_none2.R a) S_none2.n) (endD Tryz.prog S_none2 a)
def la_none22 (a : NnA) (xs : List Int) : LA where
  α := NnM
  at_ e := nnS a e 22 (.int .i64 0) [(51, a.s.v 12), (52, tgI .i64 a.s.l), (53, tgI .i64 e.k)]
  J e := ((0 ≤ e.k ∧ e.k ≤ a.s.l) ∧ e.z = sumC (xs.take e.k.toNat)) ∧ okSt e.b
  μ e := (a.s.l - e.k).toNat
  ren := nnR
  xt := none
def S_none22 : SpecD := { S_noneA with
  pre := fun (a : NnA) => (0 ≤ a.w ∧ a.w < 256) ∧ ∃ xs, Sli (Value.int .i64) 1 a.s.n a.s.o a.s.l a.s.k a.s.c xs ∧ a.s.l = 2 ∧ inRt xs ∧ ¬ rightP (sumC xs) }
def G_none22 (a : NnA) (xs : List Int) : Prop := fnW Tryz.prog E0 (cwX (fun c => cwD Tryz.prog S_known (cwD Tryz.prog S_startW (cwT2 S_new22 isA (cwT2 S_newF isF (cwD Tryz.prog S_eqlsame (cwD Tryz.prog S_gsame (cwD Tryz.prog S_clonex (cwD Tryz.prog S_clint c)))))))) 5) [some (la_none22 a xs), some (joins [(18, j1822 a)])] S_none22.f (S_none22.args a) (mem (S_none22.R a) S_none22.n) (endD Tryz.prog S_none22 a)
end
end Go.Proofs.YthcldogebnjohaaGreatDoor
end
