/- The machine: a run (what is to be shown). -/
import Derived.Test.YtdjnipabfbblnaaGreatDoorYmu
section
set_option maxRecDepth 100000
namespace Go.Proofs.YtdjnipabfbblnaaGreatDoor
open Go.Ev
-- keep num foldI dnum frm Go.Ev.Sli Go.Ev.HV insAt argP rightP hasC farC stepC okAt twoC truthC W32 runC storeC manyC cells4
def manyC (most : Int) : Nat := (min most 1048576).toNat
structure RnA where
  pc : Int
  halt : Int
  m : SA
  s : SA
  most : Int
structure RnO where
  pc : Int
  halt : Int
  k : Nat
  c : List Value
  n : Int
  f : Bool
set_option linter.unusedSectionVars false
variable [Go.Ev.Frozen Tryz.prog]
noncomputable section
def S_clm : SpecD where
  f := 51
  α := SA
  args a := [mnS 13 false a.o a.l a.k]
  R a := [(13, .f a.c 21 .gro)]
  n := 13 + 1
  pre a := (∃ xs, Sli (Value.int .i32) 1 false a.o a.l a.k a.c xs) ∧ 1 ≤ a.l ∧ a.l ≤ 256
  outs := [⟨RW, fun a b => a.l ≤ b.k ∧ ∀ xs, Sli (Value.int .i32) 1 false a.o a.l a.k a.c xs → HE .i32 b.c xs, fun a b => tgS (13 + 1) 0 a.l b.k, fun _ b => [(13 + 1, .f b.c 21 (.grown b.k))], fun _ _ => 13 + 2, fun v _ => renS (13 + 1) v⟩]
  pick _ _ := 0
  find l A := saK A 13 (lv l 0) fun s r => some (s, r)
def G_clm (a : SA) : Prop := fnW Tryz.prog E0 cw0 [] S_clm.f (S_clm.args a) (mem (S_clm.R a) S_clm.n) (endD Tryz.prog S_clm a)
abbrev rnR (a : RnA) : List (Nat × PO) := codR a.s 13 :: (13 + 1, .f a.m.c 21 .gro) :: globM
def mnN (i : Nat) (v : Value) : List (Nat × Nat) := match v with
  | .map (some b) => [(i, b)]
  | _ => []
def la_mrun (a : RnA) (xs cs : List Int) : LA where
  α := RnO
  at_ e := ⟨[(0, a.s.v 13), (2, tgI .i64 a.most), (4, .pointer (some ⟨13 + 2, 0, none⟩)), (6, .pointer (some ⟨13 + 3, 0, none⟩)), (9, .map (some (13 + 5))), (10, tgI .i64 e.n)],
    (13 + 2, .p (.row [tgI .i64 e.pc, tgS (13 + 4) 0 a.m.l e.k, tgI .i64 e.halt] 156 .own)) :: (13 + 4, .f e.c 21 (.grown e.k)) :: (13 + 3, .p (.row [.int .i64 0, .slice none 0 0, .int .i64 0] 156 .own)) :: (13 + 5, .p (.map twosE 11)) :: rnR a, 13 + 6⟩
  J e := (∃ ys, HE .i32 e.c ys ∧ ys.length = a.m.l ∧ W32 ys ∧ runC cs ⟨e.pc, ys, e.halt⟩ (manyC a.most - e.n.toNat) = runC cs ⟨a.pc, xs, a.halt⟩ (manyC a.most)) ∧ (0 ≤ e.pc ∧ e.pc ≤ 2048) ∧ (0 ≤ e.n ∧ e.n ≤ (manyC a.most : Int)) ∧ a.m.l ≤ e.k
  μ e := manyC a.most - e.n.toNat
  ren s := renP (13 + 2) (tv s 4) ++ (renP (13 + 3) (tv s 6) ++ (renS (13 + 4) (lv (rowO s.A (ptB (tv s 4))) 1) ++ mnN (13 + 5) (tv s 9)))
def S_mrun : SpecD where
  f := 86
  α := RnA
  args a := [a.s.v 13, .agg ⟨[tgI .i64 a.pc, tgS (13 + 1) a.m.o a.m.l a.m.k, tgI .i64 a.halt]⟩, tgI .i64 a.most]
  R a := rnR a
  n := 13 + 2
  pre a := (∃ xs, Sli (Value.int .i32) 1 false a.m.o a.m.l a.m.k a.m.c xs ∧ W32 xs) ∧ (1 ≤ a.m.l ∧ a.m.l ≤ 256) ∧ (∃ cs, Sli (Value.int .i64) 4 a.s.n a.s.o a.s.l a.s.k a.s.c cs) ∧ (0 ≤ a.pc ∧ a.pc ≤ 2048) ∧ (0 ≤ a.halt ∧ a.halt ≤ 2) ∧ 0 ≤ a.most
  outs := [⟨RnO, fun a b => a.m.l ≤ b.k ∧ ∀ xs cs, Sli (Value.int .i32) 1 false a.m.o a.m.l a.m.k a.m.c xs → W32 xs → Sli (Value.int .i64) 4 a.s.n a.s.o a.s.l a.s.k a.s.c cs →
    HE .i32 b.c (runC cs ⟨a.pc, xs, a.halt⟩ (manyC a.most)).mem ∧ b.pc = (runC cs ⟨a.pc, xs, a.halt⟩ (manyC a.most)).pc ∧ b.halt = (runC cs ⟨a.pc, xs, a.halt⟩ (manyC a.most)).halt,
    fun a b => .tuple ⟨[.agg ⟨[tgI .i64 b.pc, tgS (13 + 2) 0 a.m.l b.k, tgI .i64 b.halt]⟩, tgI .i64 b.n, tg (.bool b.f)]⟩, fun _ b => [(13 + 2, .f b.c 21 (.grown b.k))], fun _ _ => 13 + 3, fun v _ => renS (13 + 2) (lv (agv (lv (agv v) 0)) 1)⟩]
  pick _ _ := 0
  find l A := saK A 13 (lv l 0) fun s q => wI (lv (agv (lv l 1)) 0) fun p => saK A (13 + 1) (lv (agv (lv l 1)) 1) fun m r => wI (lv (agv (lv l 1)) 2) fun h => wI (lv l 2) fun t => some (⟨p, h, m, s, t⟩, q ++ r)
def cwRun : CW := cwN (fun c => cwD Tryz.prog S_step (cwD Tryz.prog S_clm c)) 3
def G_mrun (a : RnA) (xs cs : List Int) : Prop := fnW Tryz.prog E0 cwRun [some (la_mrun a xs cs)] S_mrun.f (S_mrun.args a) (mem (S_mrun.R a) S_mrun.n) (endD Tryz.prog S_mrun a)
end
end Go.Proofs.YtdjnipabfbblnaaGreatDoor
end

/- The machine: a run is what is told of it. -/
section
set_option maxRecDepth 100000
namespace Go.Proofs.YtdjnipabfbblnaaGreatDoor
open Go.Ev
set_option linter.unusedSectionVars false
variable [Go.Ev.Frozen Tryz.prog]
noncomputable section
def W_G_mrun_0 : RnA → RnO → Option AO := fun (a : RnA) (x7 : RnO) => Option.some (AO.row [Value.iface (1000000007 : Nat) (Value.int IntKind.i64 x7.1), Value.iface (1000000007 : Nat) (Value.slice (Option.some (Addr.mk (17
: Nat) (0 : Nat) Option.none)) a.3.3 x7.3), Value.iface (1000000007 : Nat) (Value.int IntKind.i64 x7.2)] (156 : Nat) Md.own)
end
abbrev QYmrP_1 (a0 : RnA) (a1 : RnO) : Prop := a0.3.3 ≤ a1.3 ∧ ∀ (b0 b1 : List Int), Sli (Value.int IntKind.i32) 1 false a0.3.2 a0.3.3 a0.3.4 a0.3.5 b0 → W32 b0 → Sli (Value.int
 IntKind.i64) 4 a0.4.1 a0.4.2 a0.4.3 a0.4.4 a0.4.5 b1 → HE IntKind.i32 a1.4 (runC b1 (MS.mk a0.1 b0 a0.2) (manyC a0.5)).2 ∧ a1.1 = (runC b1 (MS.mk a0.1 b0 a0.2) (manyC a0.5)).1 ∧
 a1.2 = (runC b1 (MS.mk a0.1 b0 a0.2) (manyC a0.5)).3
abbrev QYmrP_2 (a0 : RnA) (a1 : RW) : Prop := ∃ (b0 : RnO), QYmrP_1 a0 b0 ∧ ((b0.1 = a0.1 ∧ (0 = 0 ∧ a0.3.3 = a0.3.3 ∧ b0.3 = a1.1) ∧ b0.2 = a0.2 ∧ True) ∧ b0.5 = 0 ∧ b0.6 = false
 ∧ True) ∧ (b0.3 = a1.1 ∧ FlatL b0.4 ∧ b0.4 = a1.2) ∧ True
abbrev QYmrP_3 (a0 : RnO) (a1 : RnA) : Prop := (a0.2 ≠ 0 → (True ∧ (True ∧ True) ∧ (True ∧ True) ∧ (W_G_mrun_0 a1 a0 = W_G_mrun_0 a1 a0 ∧ True) ∧ (True ∧ True) ∧ True ∧ True ∧ True
 ∧ True) ∧ (∃ (b0 : RnO), QYmrP_1 a1 b0 ∧ ((b0.1 = a0.1 ∧ (0 = 0 ∧ a1.3.3 = a1.3.3 ∧ b0.3 = a0.3) ∧ b0.2 = a0.2 ∧ True) ∧ b0.5 = a0.5 ∧ b0.6 = true ∧ True) ∧ (b0.3 = a0.3 ∧ FlatL
 b0.4 ∧ b0.4 = a0.4) ∧ True)) ∧ (¬(a0.2 ≠ 0) → (True ∧ (True ∧ True) ∧ (True ∧ True) ∧ (W_G_mrun_0 a1 a0 = W_G_mrun_0 a1 a0 ∧ True) ∧ (True ∧ True) ∧ True ∧ True ∧ True ∧ True) ∧ ∃
 (b0 : RnO), QYmrP_1 a1 b0 ∧ ((b0.1 = a0.1 ∧ (0 = 0 ∧ a1.3.3 = a1.3.3 ∧ b0.3 = a0.3) ∧ b0.2 = a0.2 ∧ True) ∧ b0.5 = a0.5 ∧ b0.6 = false ∧ True) ∧ (b0.3 = a0.3 ∧ FlatL b0.4 ∧ b0.4 =
 a0.4) ∧ True)
abbrev QYmrP_4 (a0 : SA) (a1 : RW) : Prop := a0.3 ≤ a1.1 ∧ ∀ (b0 : List Int), Sli (Value.int IntKind.i32) 1 false a0.2 a0.3 a0.4 a0.5 b0 → HE IntKind.i32 a1.2 b0
abbrev QYmrP_5 (a0 : RnO) (a1 : RnA) (a2 : List Int) (a3 : List Int) : Prop := (∃ (b0 : List Int), HE IntKind.i32 a0.4 b0 ∧ List.length b0 = a1.3.3 ∧ W32 b0 ∧ runC a2 (MS.mk a0.1
 b0 a0.2) (manyC a1.5 - Int.toNat a0.5) = runC a2 (MS.mk a1.1 a3 a1.2) (manyC a1.5)) ∧ (0 ≤ a0.1 ∧ a0.1 ≤ 2048) ∧ (0 ≤ a0.5 ∧ a0.5 ≤ (↑ (manyC a1.5) : Int)) ∧ a1.3.3 ≤ a0.3
abbrev QYmrP_6 : Prop := 11 = 11 ∧ (True ∧ True) ∧ (True ∧ True) ∧ (True ∧ True) ∧ (True ∧ True) ∧ (True ∧ True) ∧ (True ∧ True) ∧ (True ∧ True) ∧ (True ∧ True) ∧ (True ∧ True) ∧
 (True ∧ True) ∧ (True ∧ True) ∧ True
theorem vc_clm (a : SA) : G_clm a = ((false = true → (∃ (x0 : RW), QYmrP_4 a x0 ∧ False ∧ (FlatL x0.2 ∧ True) ∧ True)) ∧ (false = false → (false = true → (0 ≤ 0 → true = true ∧ true = true ∧ 0 ≤ 0 ∧ (∀ (x2 : Nat) (x3
: List Value), x2 = 0 → x3 = lput [] 0 [] → ∃ (x4 : RW), QYmrP_4 a x4 ∧ (0 = 0 ∧ a.3 = x2 ∧ x4.1 = 0) ∧ ((x4.1 = 0 ∧ x3 = []) ∧ FlatL x4.2 ∧ x4.2 = x3) ∧ True)) ∧ (¬(0 ≤ 0) → Few 0
4 ∧ 0 ≤ 0 ∧ (∀ (x6 : Nat) (x7 : List Value), x6 = 0 → x7 = lwin [] 0 0 ++ [] → ∃ (x8 : RW), QYmrP_4 a x8 ∧ (0 = 0 ∧ a.3 = x6 ∧ x8.1 = x6) ∧ (x8.1 = x6 ∧ FlatL x8.2 ∧ x8.2 = x7) ∧
True))) ∧ (false = false → a.2 + a.3 * 1 ≤ List.length a.5 ∧ ∀ (x10 : List Value), x10 = lwin a.5 a.2 (a.3 * 1) → (0 + a.3 ≤ 0 → true = true ∧ lall oneK x10 = true ∧ 0 +
List.length x10 ≤ 0 ∧ (∀ (x11 : Nat) (x12 : List Value), x11 = 0 + a.3 → x12 = lput [] 0 x10 → ∃ (x13 : RW), QYmrP_4 a x13 ∧ (0 = 0 ∧ a.3 = x11 ∧ x13.1 = 0) ∧ ((x13.1 = 0 ∧ x12 =
[]) ∧ FlatL x13.2 ∧ x13.2 = x12) ∧ True)) ∧ (¬(0 + a.3 ≤ 0) → Few (0 + a.3) 4 ∧ 0 ≤ 0 ∧ ∀ (x15 : Nat) (x16 : List Value), x15 = 0 + a.3 → x16 = lwin [] 0 0 ++ x10 → ∃ (x17 : RW),
QYmrP_4 a x17 ∧ (0 = 0 ∧ a.3 = x15 ∧ x17.1 = x15) ∧ (x17.1 = x15 ∧ FlatL x17.2 ∧ x17.2 = x16) ∧ True)))) := by kernel_rfl
set_option maxHeartbeats 3200000 in
theorem vc_mrun (a : RnA) (xs cs : List Int) : G_mrun a xs cs = ((True ∧ (∃ (x0 : List Int), Sli (Value.int IntKind.i32) 1 false a.3.2 a.3.3 a.3.4 a.3.5 x0) ∧ 1 ≤ a.3.3 ∧ a.3.3 ≤ 256) ∧ (((false = false ∧ a.3.2 = a.3.2 ∧ a.3.3 = a.3.3 ∧ a.3.4 =
a.3.4) ∧ True) ∧ ZF a.3.5 ∧ True) ∧ (∀ (x1 : RW), QYmrP_4 a.3 x1 → ∀ (x3 : Int), x3 = (↑a.3.3 : Int) → ((1 : Int) ≤ x3 → (∀ (x4 : Int), x4 = (↑a.3.3 : Int) → (x4 ≤ (256 : Int) → (0
≤ a.1 → (a.1 ≤ 2048 → (0 ≤ a.2 → (a.2 ≤ 2 → (∃ (x5 : RnO), QYmrP_5 x5 a cs xs ∧ ((Z4 a.4 ∧ a.5 = a.5 ∧ 0 = 0 ∧ 0 = 0 ∧ True ∧ x5.5 = 0 ∧ True) ∧ ((True ∧ x5.1 = a.1 ∧ (0 = 0 ∧
a.3.3 = a.3.3 ∧ x5.3 = x1.1) ∧ x5.2 = a.2 ∧ True) ∧ (x5.3 = x1.1 ∧ FlatL x5.4 ∧ x5.4 = x1.2) ∧ (True ∧ (0 : Int) = 0 ∧ (0 = 0 ∧ 0 = 0) ∧ (0 : Int) = 0 ∧ True) ∧ QYmrP_6 ∧ ZF a.4.5
∧ ZF a.3.5 ∧ ZF cells4 ∧ True) ∧ True) ∧ ∀ (x7 : RnO), QYmrP_5 x7 a cs xs → ∀ (x9 : Int), x9 = Min.min a.5 (1048576 : Int) → (x7.5 < x9 → (x7.2 = 0 → (True ∧ (∃ (x10 : List Int),
HE IntKind.i32 x7.4 x10 ∧ List.length x10 = a.3.3 ∧ W32 x10) ∧ (1 ≤ a.3.3 ∧ a.3.3 ≤ 256) ∧ (∃ (x11 : List Int), Sli (Value.int IntKind.i64) 4 a.4.1 a.4.2 a.4.3 a.4.4 a.4.5 x11) ∧ 0
≤ x7.1 ∧ x7.1 ≤ 2048) ∧ ((0 = 0 ∧ Z4 a.4 ∧ True ∧ True) ∧ (True ∧ x7.1 = x7.1 ∧ (0 = 0 ∧ a.3.3 = a.3.3 ∧ x7.3 = x7.3) ∧ x7.2 = x7.2 ∧ True) ∧ (x7.3 = x7.3 ∧ FlatL x7.4 ∧ x7.4 =
x7.4) ∧ ZF a.4.5 ∧ QYmrP_6 ∧ ZF cells4 ∧ True) ∧ (∀ (x12 : StO), (∀ (x13 x14 : List Int), HE IntKind.i32 x7.4 x13 → List.length x13 = a.3.3 → W32 x13 → Sli (Value.int IntKind.i64)
4 a.4.1 a.4.2 a.4.3 a.4.4 a.4.5 x14 → HE IntKind.i32 x12.3 (stepC x14 (MS.mk x7.1 x13 x7.2)).2 ∧ x12.1 = (stepC x14 (MS.mk x7.1 x13 x7.2)).1 ∧ x12.2 = (stepC x14 (MS.mk x7.1 x13
x7.2)).3) → ∀ (x15 : Int), x15 = IntKind.wrap .i64 (x7.5 + (1 : Int)) → ∃ (x16 : RnO), QYmrP_5 x16 a cs xs ∧ manyC a.5 - Int.toNat x16.5 < manyC a.5 - Int.toNat x7.5 ∧ (Z4 a.4 ∧
a.5 = a.5 ∧ 0 = 0 ∧ 0 = 0 ∧ True ∧ x16.5 = x15 ∧ True) ∧ ((True ∧ x16.1 = x12.1 ∧ (0 = 0 ∧ a.3.3 = a.3.3 ∧ x16.3 = x7.3) ∧ x16.2 = x12.2 ∧ True) ∧ (x16.3 = x7.3 ∧ FlatL x16.4 ∧
x16.4 = x12.3) ∧ (True ∧ (0 : Int) = 0 ∧ (0 = 0 ∧ 0 = 0) ∧ (0 : Int) = 0 ∧ True) ∧ QYmrP_6 ∧ ZF a.4.5 ∧ ZF a.3.5 ∧ ZF cells4 ∧ True) ∧ True) ∧ True) ∧ (¬(x7.2 = 0) → QYmrP_3 x7 a))
∧ (¬(x7.5 < x9) → QYmrP_3 x7 a))) ∧ (¬(a.2 ≤ 2) → QYmrP_2 a x1)) ∧ (¬(0 ≤ a.2) → QYmrP_2 a x1)) ∧ (¬(a.1 ≤ 2048) → QYmrP_2 a x1)) ∧ (¬(0 ≤ a.1) → QYmrP_2 a x1)) ∧ (¬(x4 ≤ (256 :
Int)) → QYmrP_2 a x1))) ∧ (¬((1 : Int) ≤ x3) → QYmrP_2 a x1)) ∧ True) := by kernel_rfl
theorem g_clm (a : SA) (xs : List Int) (hx : Sli (Value.int .i32) 1 false a.o a.l a.k a.c xs) (h1 : 1 ≤ a.l) (h2 : a.l ≤ 256) : G_clm a := by
  have hw := hx.win rfl
  rw [vc_clm]
  refine ⟨fun h => (nomatch h), fun _ => ⟨fun h => (nomatch h), fun _ => ⟨hx.fit rfl, fun x10 e10 => ⟨fun h => absurd h (by omega), fun _ => ⟨by show (0 + a.l) * (4 + 1) ≤ 1073741824; omega, Nat.le_refl _, fun x15 x16 e15 e16 => ?_⟩⟩⟩⟩⟩
  have e : x16 = lwin a.c a.o (a.l * 1) := by rw [e16, e10]; rfl
  have h3 : HE .i32 x16 xs := by rw [e]; exact hw
  exact ⟨⟨x15, x16⟩, ⟨by show a.l ≤ x15; omega, fun ys hy => by rw [Sli.uniqI hy hx]; exact h3⟩, ⟨rfl, by omega, rfl⟩, ⟨rfl, heFlat h3, rfl⟩, trivial⟩
theorem s_clm : SpecOK Tryz.prog S_clm.spec := fun a K ⟨⟨xs, hx⟩, h1, h2⟩ hq => specD_at (an := []) envOK cw0_ok (fun _ => g_clm a xs hx h1 h2) K ⟨⟨xs, hx⟩, h1, h2⟩ hq
theorem stepC_len (cs : List Int) (s : MS) : (stepC cs s).mem.length = s.mem.length := by
  unfold stepC
  simp only []
  split
  · rfl
  split
  · rfl
  split
  · rfl
  show (match storeC _ _ with | some (p, v) => s.mem.set p.toNat v | none => s.mem).length = _
  split
  · simp
  · rfl
theorem argP_jump {s : List UInt8} {k : Nat} {n size words : Int} (h : s[k]? = some 112) (hp : argP s k n size words) : 0 ≤ n ∧ n < size := by
  rw [argP_some h, if_neg (by decide), if_pos rfl] at hp; exact hp
theorem stepC_pc (cs : List Int) (s : MS) (hp : 0 ≤ s.pc ∧ s.pc ≤ 2048) : 0 ≤ (stepC cs s).pc ∧ (stepC cs s).pc ≤ 2048 := by
  by_cases hok : okAt cs s
  · generalize hi : insAt cs s.pc.toNat = i
    unfold stepC
    simp only [hi]
    rw [if_neg (not_not_intro hok)]
    split
    · exact hp
    split
    · exact hp
    obtain ⟨h1, h2, h3⟩ := hok
    rw [hi] at h3
    have hj : i.op = 19 ∨ i.op = 20 ∨ i.op = 21 → 0 ≤ i.a ∧ i.a ≤ 2048 := fun h => by
      have ha := h3.2.1.1
      have : 0 ≤ i.a ∧ i.a < (cs.length / 4 : Nat) := argP_jump (by rcases h with h | h | h <;> rw [h] <;> rfl) ha
      omega
    show 0 ≤ goalC i s ∧ goalC i s ≤ 2048
    unfold goalC
    split
    · exact hj (by omega)
    split
    · split
      · exact hj (by omega)
      · omega
    split
    · split
      · omega
      · exact hj (by omega)
    · omega
  · rw [step_bad hok]; exact hp
theorem wrap32 (x : Int) : -2147483648 ≤ IntKind.wrap .i32 x ∧ IntKind.wrap .i32 x ≤ 2147483647 := by rw [wrap_i32]; omega
theorem truth32 (p : Prop) [Decidable p] : -2147483648 ≤ truthC p ∧ truthC p ≤ 2147483647 := by unfold truthC; split <;> omega
theorem getD32 {m : List Int} (h : W32 m) (i : Nat) : -2147483648 ≤ m.getD i 0 ∧ m.getD i 0 ≤ 2147483647 := by
  by_cases hi : i < m.length
  · have : m.getD i 0 = m[i] := by simp [List.getD, hi]
    rw [this]; exact h _ (List.getElem_mem hi)
  · have : m.getD i 0 = 0 := by simp only [List.getD]; rw [List.getElem?_eq_none (by omega)]; rfl
    omega
theorem tmod32 {b c : Int} (h : -2147483648 ≤ b ∧ b ≤ 2147483647) : -2147483648 ≤ b.tmod c ∧ b.tmod c ≤ 2147483647 := by
  have h2 : (b.tmod c).natAbs ≤ b.natAbs := by rw [Int.natAbs_tmod]; exact Nat.mod_le _ _
  rcases Int.le_total 0 b with h0 | h0
  · have := Int.tmod_nonneg c h0; omega
  · have h3 := Int.tmod_nonneg c (show 0 ≤ -b by omega)
    rw [Int.neg_tmod] at h3; omega
theorem twoC32 (op : Int) {b c : Int} (h : -2147483648 ≤ b ∧ b ≤ 2147483647) : -2147483648 ≤ twoC op b c ∧ twoC op b c ≤ 2147483647 := by
  unfold twoC
  repeat' split
  all_goals first | exact wrap32 _ | exact truth32 _ | exact tmod32 h | (exact ⟨by decide, by decide⟩)
theorem store32 {i : Ins} {m : List Int} (h : W32 m) {p v : Int} (hs : storeC i m = some (p, v)) : -2147483648 ≤ v ∧ v ≤ 2147483647 := by
  unfold storeC at hs
  have g := getD32 h
  have c1 := wrap32 i.b
  have c2 := wrap32 i.c
  repeat' split at hs
  all_goals first | (cases hs; done) | (simp only [Option.some.injEq, Prod.mk.injEq] at hs; obtain ⟨_, rfl⟩ := hs; first | exact wrap32 _ | exact truth32 _ | exact twoC32 _ (g _) | exact g _ | (have := g i.a.toNat; omega))
theorem stepC_w32 (cs : List Int) (s : MS) (h : W32 s.mem) : W32 (stepC cs s).mem := by
  unfold stepC
  simp only []
  split
  · exact h
  split
  · exact h
  split
  · exact h
  show W32 (match storeC _ _ with | some (p, v) => s.mem.set p.toNat v | none => s.mem)
  split
  · rename_i p v hs
    intro x hx
    rcases List.mem_or_eq_of_mem_set hx with hx | rfl
    · exact h x hx
    · exact store32 h hs
  · exact h
theorem runC_halt {cs : List Int} {s : MS} (h : s.halt ≠ 0) : ∀ n, runC cs s n = s
  | 0 => rfl
  | n + 1 => by show (if s.halt = 0 then _ else s) = s; rw [if_neg h]
theorem runC_succ {cs : List Int} {s : MS} (h : s.halt = 0) (n : Nat) : runC cs s (n + 1) = runC cs (stepC cs s) n := by show (if s.halt = 0 then _ else s) = _; rw [if_pos h]
theorem g_mrun (a : RnA) (xs cs : List Int) (hx : Sli (Value.int .i32) 1 false a.m.o a.m.l a.m.k a.m.c xs) (hw : W32 xs) (hb : 1 ≤ a.m.l ∧ a.m.l ≤ 256) (hc : Sli (Value.int .i64) 4 a.s.n a.s.o a.s.l a.s.k a.s.c cs) (hp : 0 ≤ a.pc ∧ a.pc ≤ 2048) (hh : 0 ≤ a.halt ∧ a.halt ≤ 2) (hmost : 0 ≤ a.most) : G_mrun a xs cs := by
  have fm := hx.flat
  have fc := hc.flat
  have fo := opsFlat
  have hlen : xs.length = a.m.l := by have := hx.len; omega
  have hmany : (manyC a.most : Int) = min a.most 1048576 := by unfold manyC; omega
  rw [vc_mrun]
  refine ⟨⟨trivial, ⟨xs, hx⟩, hb.1, hb.2⟩, by repeat' first | with_reducible apply And.intro | exact trivial | exact rfl | assumption, fun x1 h1 x3 e3 => ⟨fun _ x4 e4 => ⟨fun _ => ⟨fun _ => ⟨fun _ => ⟨fun _ => ⟨fun _ => ?_, fun h => absurd hh.2 h⟩, fun h => absurd hh.1 h⟩, fun h => absurd hp.2 h⟩, fun h => absurd hp.1 h⟩, fun h => absurd (show x4 ≤ 256 by omega) h⟩, fun h => absurd (show 1 ≤ x3 by omega) h⟩, trivial⟩
  have hx1 := h1.2 xs hx
  have fx1 := heFlat hx1
  refine ⟨⟨a.pc, a.halt, x1.k, x1.c, 0, false⟩, ⟨⟨xs, hx1, hlen, hw, rfl⟩, hp, ⟨Int.le_refl 0, by show (0 : Int) ≤ _; omega⟩, h1.1⟩, by repeat' first | with_reducible apply And.intro | exact trivial | exact rfl | assumption, ?_⟩
  rintro ⟨pc, halt, k, c, n, f⟩ ⟨⟨ys, hy, hyl, hyw, hrun⟩, hpc, hn, hk⟩ x9 e9
  dsimp only at hy hrun hpc hn hk ⊢
  have fy := heFlat hy
  have out : runC cs ⟨pc, ys, halt⟩ (manyC a.most - n.toNat) = ⟨pc, ys, halt⟩ → ∀ zs ds : List Int, Sli (Value.int .i32) 1 false a.m.o a.m.l a.m.k a.m.c zs → W32 zs → Sli (Value.int .i64) 4 a.s.n a.s.o a.s.l a.s.k a.s.c ds →
      HE .i32 c (runC ds ⟨a.pc, zs, a.halt⟩ (manyC a.most)).mem ∧ pc = (runC ds ⟨a.pc, zs, a.halt⟩ (manyC a.most)).pc ∧ halt = (runC ds ⟨a.pc, zs, a.halt⟩ (manyC a.most)).halt := fun h zs ds hz _ hd => by
    rw [Sli.uniqI hz hx, Sli.uniqI hd hc, ← hrun, h]; exact ⟨hy, rfl, rfl⟩
  have exit_ : ∀ b : Bool, runC cs ⟨pc, ys, halt⟩ (manyC a.most - n.toNat) = ⟨pc, ys, halt⟩ → ∃ x : RnO, (a.m.l ≤ x.k ∧ ∀ zs ds : List Int, Sli (Value.int .i32) 1 false a.m.o a.m.l a.m.k a.m.c zs → W32 zs → Sli (Value.int .i64) 4 a.s.n a.s.o a.s.l a.s.k a.s.c ds →
      HE .i32 x.c (runC ds ⟨a.pc, zs, a.halt⟩ (manyC a.most)).mem ∧ x.pc = (runC ds ⟨a.pc, zs, a.halt⟩ (manyC a.most)).pc ∧ x.halt = (runC ds ⟨a.pc, zs, a.halt⟩ (manyC a.most)).halt) ∧
      ((x.pc = pc ∧ ((0 : Nat) = (0 : Nat) ∧ a.m.l = a.m.l ∧ x.k = k) ∧ x.halt = halt ∧ True) ∧ x.n = n ∧ x.f = b ∧ True) ∧ (x.k = k ∧ FlatL x.c ∧ x.c = c) ∧ True := fun b h =>
    ⟨⟨pc, halt, k, c, n, b⟩, ⟨hk, out h⟩, ⟨⟨rfl, ⟨rfl, rfl, rfl⟩, rfl, trivial⟩, rfl, rfl, trivial⟩, ⟨rfl, fy, rfl⟩, trivial⟩
  refine ⟨fun hlt => ⟨fun h0 => ?_, fun h0 => ⟨fun _ => ⟨by repeat' first | with_reducible apply And.intro | exact trivial | exact rfl | assumption, exit_ _ (runC_halt h0 _)⟩, fun _ => ⟨by repeat' first | with_reducible apply And.intro | exact trivial | exact rfl | assumption, exit_ _ (runC_halt h0 _)⟩⟩⟩, fun hge => ?_⟩
  · refine ⟨⟨trivial, ⟨ys, hy, hyl, hyw⟩, hb, ⟨cs, hc⟩, hpc⟩, by repeat' first | with_reducible apply And.intro | exact trivial | exact rfl | assumption, fun x12 h12 x15 e15 => ?_, trivial⟩
    obtain ⟨q1, q2, q3⟩ := h12 ys cs hy hyl hyw hc
    have e15' : x15 = n + 1 := by rw [e15, wrap_sm (by omega)]
    have fq := heFlat q1
    have hlt' : n.toNat < manyC a.most := by omega
    refine ⟨⟨x12.pc, x12.halt, k, x12.c, n + 1, false⟩, ⟨⟨(stepC cs ⟨pc, ys, halt⟩).mem, q1, by rw [stepC_len]; exact hyl, stepC_w32 _ _ hyw, ?_⟩, ?_, ⟨by show (0 : Int) ≤ n + 1; omega, by show n + 1 ≤ (manyC a.most : Int); omega⟩, hk⟩, by show manyC a.most - (n + 1).toNat < manyC a.most - n.toNat; omega, ?_, ?_⟩
    · have e2 : manyC a.most - n.toNat = (manyC a.most - (n + 1).toNat) + 1 := by omega
      rw [e2, runC_succ h0] at hrun
      show runC cs ⟨x12.pc, _, x12.halt⟩ (manyC a.most - (n + 1).toNat) = _
      rw [q2, q3]; exact hrun
    · show 0 ≤ x12.pc ∧ x12.pc ≤ 2048
      rw [q2]; exact stepC_pc cs ⟨pc, ys, halt⟩ hpc
    · refine ⟨⟨rfl, rfl, rfl, rfl⟩, rfl, rfl, rfl, trivial, e15'.symm, trivial⟩
    · repeat' first | with_reducible apply And.intro | exact trivial | exact rfl | assumption
  · have h0 : manyC a.most - n.toNat = 0 := by omega
    have h2 : runC cs ⟨pc, ys, halt⟩ (manyC a.most - n.toNat) = ⟨pc, ys, halt⟩ := by rw [h0]; rfl
    exact ⟨fun _ => ⟨by repeat' first | with_reducible apply And.intro | exact trivial | exact rfl | assumption, exit_ _ h2⟩, fun _ => ⟨by repeat' first | with_reducible apply And.intro | exact trivial | exact rfl | assumption, exit_ _ h2⟩⟩
theorem s_mrun : SpecOK Tryz.prog S_mrun.spec := fun a K ⟨⟨xs, hx, hw⟩, hb, ⟨cs, hc⟩, hp, hh, hm⟩ hq => specD_at (an := [some (la_mrun a xs cs)]) envOK (cwN_ok (fun _ h => cwD_ok s_step (cwD_ok s_clm h)) 3) (fun _ => g_mrun a xs cs hx hw hb hc hp hh hm) K ⟨⟨xs, hx, hw⟩, hb, ⟨cs, hc⟩, hp, hh, hm⟩ hq
end Go.Proofs.YtdjnipabfbblnaaGreatDoor
end

/- A program's code: fits, Words, New, State (what is to be shown). -/
section
set_option maxRecDepth 100000
namespace Go.Proofs.YtdjnipabfbblnaaGreatDoor
open Go.Ev
-- keep cdP cdF num foldI dnum frm Go.Ev.Sli Go.Ev.HV insAt argP rightP hasC farC stepC okAt twoC truthC W32 runC storeC manyC cells4
structure CdA where
  cells : Int
  seats : Int
  first : SA
  params : SA
  i0 : SA
  i1 : SA
  i2 : SA
  i3 : SA
  i4 : SA
  m0 : Int
  m1 : Int
  m2 : Int
  m3 : Int
  m4 : Int
structure FtA where
  c : CdA
  v : SA
  g : SA
structure NwO where
  l : Nat
  c : List Value
set_option linter.unusedSectionVars false
variable [Go.Ev.Frozen Tryz.prog]
noncomputable section
def cdR (a : CdA) (i : Nat) : List (Nat × PO) :=
  [(i, .p (.row [tgI .i64 a.cells, tgI .i64 a.seats, a.first.v (i + 1), a.params.v (i + 2), a.i0.v (i + 3), a.i1.v (i + 4), a.i2.v (i + 5), a.i3.v (i + 6), a.i4.v (i + 7), tgI .i64 a.m0, tgI .i64 a.m1, tgI .i64 a.m2, tgI .i64 a.m3, tgI .i64 a.m4] 165 .gro)),
   (i + 1, .f a.first.c 21 .gro), (i + 2, .f a.params.c 87 .gro), codR a.i0 (i + 3), codR a.i1 (i + 4), codR a.i2 (i + 5), codR a.i3 (i + 6), codR a.i4 (i + 7)]
def cdK {β : Type} (A : AW) (i : Nat) (v : Value) (k : CdA → List (Nat × Nat) → Option β) : Option β :=
  ptK v fun b => rowK A b fun r => wI (lv r 0) fun n => wI (lv r 1) fun s => saK A (i + 1) (lv r 2) fun f q1 => saK A (i + 2) (lv r 3) fun p q2 =>
    saK A (i + 3) (lv r 4) fun i0 q3 => saK A (i + 4) (lv r 5) fun i1 q4 => saK A (i + 5) (lv r 6) fun i2 q5 => saK A (i + 6) (lv r 7) fun i3 q6 => saK A (i + 7) (lv r 8) fun i4 q7 =>
    wI (lv r 9) fun m0 => wI (lv r 10) fun m1 => wI (lv r 11) fun m2 => wI (lv r 12) fun m3 => wI (lv r 13) fun m4 =>
      k ⟨n, s, f, p, i0, i1, i2, i3, i4, m0, m1, m2, m3, m4⟩ ((i, b) :: (q1 ++ (q2 ++ (q3 ++ (q4 ++ (q5 ++ (q6 ++ q7)))))))
def cdF (a : CdA) : Prop := FlatL a.first.c ∧ FlatL a.params.c ∧ FlatL a.i0.c ∧ FlatL a.i1.c ∧ FlatL a.i2.c ∧ FlatL a.i3.c ∧ FlatL a.i4.c
def cdP (a : CdA) : Prop := ((1 ≤ a.cells ∧ a.cells ≤ 200) ∧ (1 ≤ a.seats ∧ a.seats ≤ 8)) ∧ cdF a
def partIs (p : Int) (args : List Value) : Bool := match lv args 1 with
  | .int _ z => Int.rec (fun n => Nat.beq n p.toNat) (fun _ => false) z
  | _ => false
def cwP (p : Int) (S : SpecD) (cw : CW) : CW := fun f args A K => Bool.rec (cw f args A K) (callD Tryz.prog S (fun _ => True) args A K) (Nat.beq f S.f && partIs p args)
def S_cwrd : SpecD where
  f := 134
  α := CdA
  args _ := [.pointer (some ⟨13, 0, none⟩)]
  R a := cdR a 13
  n := 13 + 8
  pre a := cdP a
  outs := [⟨Unit, fun _ _ => True, fun a _ => tgI .i64 (a.cells + 49), fun _ _ => [], fun _ _ => 13 + 8, fun _ _ => []⟩]
  pick _ _ := 0
  find l A := cdK A 13 (lv l 0) fun c q => some (c, q)
def G_cwrd (a : CdA) : Prop := fnW Tryz.prog E0 cw0 [] S_cwrd.f (S_cwrd.args a) (mem (S_cwrd.R a) S_cwrd.n) (endD Tryz.prog S_cwrd a)
def S_mnew : SpecD where
  f := 133
  α := KI
  args a := [tgI .i64 a.k]
  R _ := []
  n := 13
  pre a := 1 ≤ a.k ∧ a.k ≤ 256
  outs := [⟨NwO, fun a b => (b.l : Int) = a.k ∧ HE .i32 b.c (List.replicate b.l 0), fun _ b => .tuple ⟨[.agg ⟨[.int .i64 0, tgS (13 + 0) 0 b.l b.l, .int .i64 0]⟩, .int .i64 0]⟩, fun _ b => [(13 + 0, .f b.c 21 .own)], fun _ _ => 13 + 1, fun v _ => renS (13 + 0) (lv (agv (lv (agv v) 0)) 1)⟩]
  pick _ _ := 0
  find l _ := wI (lv l 0) fun k => some (⟨k⟩, [])
def G_mnew (a : KI) : Prop := fnW Tryz.prog E0 cw0 [] S_mnew.f (S_mnew.args a) (mem (S_mnew.R a) S_mnew.n) (endD Tryz.prog S_mnew a)
def S_fits1 : SpecD where
  f := 132
  α := FtA
  args a := [.pointer (some ⟨13, 0, none⟩), .int .i64 1, a.v.v (13 + 8), .slice none 0 0]
  R a := cdR a.c 13 ++ [(13 + 8, .f a.v.c 21 .gro)]
  n := 13 + 9
  pre a := cdP a.c
  outs := [⟨Unit, fun a _ => (a.v.l : Int) = a.c.cells, fun _ _ => .int .i64 0, fun _ _ => [], fun _ _ => 13 + 9, fun _ _ => []⟩,
    ⟨Unit, fun a _ => (a.v.l : Int) ≠ a.c.cells, fun _ _ => .int .i64 3, fun _ _ => [], fun _ _ => 13 + 9, fun _ _ => []⟩]
  pick v _ := match v with
    | .int _ z => Int.rec (fun n => Nat.rec 0 (fun _ _ => 1) n) (fun _ => 0) z
    | _ => 0
  find l A := cdK A 13 (lv l 0) fun c q => saK A (13 + 8) (lv l 2) fun v q2 => some (⟨c, v, ⟨true, 0, 0, 0, []⟩⟩, q ++ q2)
def G_fits1 (a : FtA) : Prop := fnW Tryz.prog E0 (cwN (fun c => c) 3) [] S_fits1.f (S_fits1.args a) (mem (S_fits1.R a) S_fits1.n) (endD Tryz.prog S_fits1 a)
def S_fits3 : SpecD where
  f := 132
  α := FtA
  args a := [.pointer (some ⟨13, 0, none⟩), .int .i64 3, a.v.v (13 + 8), a.g.v (13 + 9)]
  R a := cdR a.c 13 ++ [(13 + 8, .f a.v.c 21 .gro), (13 + 9, .f a.g.c 21 .gro)]
  n := 13 + 10
  pre a := cdP a.c ∧ a.g.l = 1
  outs := [⟨Unit, fun a _ => (a.v.l : Int) = a.c.cells, fun _ _ => .int .i64 0, fun _ _ => [], fun _ _ => 13 + 10, fun _ _ => []⟩,
    ⟨Unit, fun a _ => (a.v.l : Int) ≠ a.c.cells, fun _ _ => .int .i64 3, fun _ _ => [], fun _ _ => 13 + 10, fun _ _ => []⟩]
  pick v _ := match v with
    | .int _ z => Int.rec (fun n => Nat.rec 0 (fun _ _ => 1) n) (fun _ => 0) z
    | _ => 0
  find l A := cdK A 13 (lv l 0) fun c q => saK A (13 + 8) (lv l 2) fun v q2 => saK A (13 + 9) (lv l 3) fun g q3 => some (⟨c, v, g⟩, q ++ (q2 ++ q3))
def G_fits3 (a : FtA) : Prop := fnW Tryz.prog E0 (cwN (fun c => c) 3) [] S_fits3.f (S_fits3.args a) (mem (S_fits3.R a) S_fits3.n) (endD Tryz.prog S_fits3 a)
def S_fits0 : SpecD where
  f := 132
  α := CdA
  args a := [.pointer (some ⟨13, 0, none⟩), .int .i64 0, .slice none 0 0, .slice none 0 0]
  R a := cdR a 13
  n := 13 + 8
  pre a := cdP a
  outs := [⟨Unit, fun _ _ => True, fun _ _ => .int .i64 0, fun _ _ => [], fun _ _ => 13 + 8, fun _ _ => []⟩]
  pick _ _ := 0
  find l A := cdK A 13 (lv l 0) fun c q => some (c, q)
def G_fits0 (a : CdA) : Prop := fnW Tryz.prog E0 (cwN (fun c => c) 3) [] S_fits0.f (S_fits0.args a) (mem (S_fits0.R a) S_fits0.n) (endD Tryz.prog S_fits0 a)
end
end Go.Proofs.YtdjnipabfbblnaaGreatDoor
end

/- A program's code: fits, Words, New are what is told of them. -/
section
set_option maxRecDepth 100000
namespace Go.Proofs.YtdjnipabfbblnaaGreatDoor
open Go.Ev
set_option linter.unusedSectionVars false
variable [Go.Ev.Frozen Tryz.prog]
theorem cwP_ok {p : Int} {S : SpecD} {cw : CW} (h : SpecOK Tryz.prog S.spec) (hc : CwOK Tryz.prog cw) : CwOK Tryz.prog (cwP p S cw) := fun f args A K g => by
  have g : (Bool.rec (cw f args A K) (callD Tryz.prog S (fun _ => True) args A K) (Nat.beq f S.f && partIs p args) : Prop) := g
  cases hb : Nat.beq f S.f with
  | false => rw [hb] at g; exact hc f args A K g
  | true =>
    cases hp : partIs p args with
    | false => rw [hb, hp] at g; exact hc f args A K g
    | true =>
      rw [hb, hp] at g
      exact cwD_ok h hc f args A K (by show (Bool.rec (cw f args A K) (callD Tryz.prog S (fun _ => True) args A K) (Nat.beq f S.f) : Prop); rw [hb]; exact g)
abbrev QYmkP_1 : Prop := True ∧ True ∧ True ∧ True ∧ True ∧ True ∧ True ∧ True ∧ True ∧ True ∧ (True ∧ True) ∧ True ∧ True ∧ True
abbrev QYmkP_2 (a0 : Int) : Prop := ∃ (b0 : NwO), ((↑b0.1 : Int) = a0 ∧ HE IntKind.i32 b0.2 (List.replicate b0.1 (0 : Int))) ∧ (((0 : Int) = 0 ∧ False ∧ (0 : Int) = 0 ∧ True) ∧ (0
 : Int) = 2 ∧ True) ∧ (FlatL b0.2 ∧ True) ∧ True
abbrev QYmkP_3 (a0 : FtA) : Prop := ∃ (_ : Unit), ((↑a0.2.3 : Int) = a0.1.1 → False) ∧ (3 : Int) = 3 ∧ True
theorem vc_cwrd (a : CdA) : G_cwrd a = (∀ (x0 : Int), x0 = IntKind.wrap .i64 (a.1 + (49 : Int)) → ∃ (_ : Unit), True ∧ a.1 + (49 : Int) = x0 ∧ True) := by kernel_rfl
theorem vc_mnew (a : KI) : G_mnew a = ((a.1 < 1 → QYmkP_2 a.1) ∧ (¬(a.1 < 1) → (256 < a.1 → QYmkP_2 a.1) ∧ (¬(256 < a.1) → (0 ≤ a.1 ∧ a.1 ≤ a.1 ∧ Few (Int.toNat a.1) 4) ∧ ∀ (x2 x3 : Nat) (x4 : List Value), x2 =
Int.toNat a.1 → x3 = Int.toNat a.1 → x4 = Nat.rec [] (fun (y5 : Nat) (y6 : List Value) => [Value.int IntKind.i32 (0 : Int)] ++ y6) x3 → ∃ (x7 : NwO), ((↑x7.1 : Int) = a.1 ∧ HE
IntKind.i32 x7.2 (List.replicate x7.1 (0 : Int))) ∧ (((0 : Int) = 0 ∧ (0 = 0 ∧ x7.1 = x2 ∧ x7.1 = x3) ∧ (0 : Int) = 0 ∧ True) ∧ (0 : Int) = 0 ∧ True) ∧ (True ∧ FlatL x7.2 ∧ x7.2 =
x4) ∧ True))) := by kernel_rfl
theorem vc_fits1 (a : FtA) : G_fits1 a = (∀ (x0 : Int), x0 = (↑a.1.4.3 : Int) → QYmkP_1 ∧ ∀ (x1 : Int), x1 = (↑a.2.3 : Int) → (x1 ≠ a.1.1 → QYmkP_3 a) ∧ (¬(x1 ≠ a.1.1) → ∃ (_ : Unit), (↑a.2.3 : Int) = a.1.1 ∧ (0 : Int) =
0 ∧ True)) := by kernel_rfl
theorem vc_fits0 (a : CdA) : G_fits0 a = (∀ (x0 : Int), x0 = (↑a.4.3 : Int) → QYmkP_1 ∧ ∃ (_ : Unit), True ∧ (0 : Int) = 0 ∧ True) := by kernel_rfl
theorem vc_fits3 (a : FtA) : G_fits3 a = (∀ (x0 : Int), x0 = (↑a.1.4.3 : Int) → QYmkP_1 ∧ ∀ (x1 : Int), x1 = (↑a.2.3 : Int) → (x1 ≠ a.1.1 → QYmkP_3 a) ∧ (¬(x1 ≠ a.1.1) → ∀ (x3 : Int), x3 = (↑a.3.3 : Int) → (x3 ≠ (1 : Int)
→ QYmkP_3 a) ∧ (¬(x3 ≠ (1 : Int)) → ∃ (_ : Unit), (↑a.2.3 : Int) = a.1.1 ∧ (0 : Int) = 0 ∧ True))) := by kernel_rfl
theorem g_cwrd (a : CdA) (h : cdP a) : G_cwrd a := by
  obtain ⟨⟨⟨h1, h2⟩, _⟩, _⟩ := h
  rw [vc_cwrd]
  intro x0 e0
  have : x0 = a.1 + 49 := by rw [e0, wrap_sm (by have : a.1 = a.cells := rfl; omega)]
  exact ⟨(), trivial, this.symm, trivial⟩
theorem s_cwrd : SpecOK Tryz.prog S_cwrd.spec := fun a => specD_at (an := []) envOK cw0_ok (g_cwrd a)
theorem lrep_i32 (n : Nat) : (Nat.rec [] (fun (_ : Nat) (y : List Value) => [Value.int .i32 0] ++ y) n : List Value) = List.replicate n (Value.int .i32 0) := by
  induction n with
  | zero => rfl
  | succ n ih => show [Value.int .i32 0] ++ _ = _; rw [ih]; rfl
theorem he_rep (n : Nat) : HE .i32 (List.replicate n (Value.int .i32 0)) (List.replicate n 0) := by
  refine ⟨by simp, fun i x h => ?_⟩
  rw [List.getElem?_replicate] at h
  by_cases hi : i < n
  · rw [if_pos hi] at h; cases h; left; rw [Nat.zero_add, List.getElem?_replicate, if_pos hi]
  · rw [if_neg hi] at h; cases h
theorem g_mnew (a : KI) (h : 1 ≤ a.k ∧ a.k ≤ 256) : G_mnew a := by
  rw [vc_mnew]
  refine ⟨fun h2 => absurd h2 (by have : a.1 = a.k := rfl; omega), fun _ => ⟨fun h2 => absurd h2 (by have : a.1 = a.k := rfl; omega), fun _ => ⟨⟨by have : a.1 = a.k := rfl; omega, Int.le_refl _, ?_⟩, fun x2 x3 x4 e2 e3 e4 => ?_⟩⟩⟩
  · show a.k.toNat * (4 + 1) ≤ 1073741824; omega
  have e : x4 = List.replicate x3 (Value.int .i32 0) := by rw [e4, lrep_i32]
  have h3 : HE .i32 x4 (List.replicate x3 0) := by rw [e]; exact he_rep _
  exact ⟨⟨x3, x4⟩, ⟨by show (x3 : Int) = a.k; rw [e3]; show ((a.k.toNat : Nat) : Int) = a.k; omega, h3⟩, ⟨⟨rfl, ⟨rfl, e3.trans e2.symm, rfl⟩, rfl, trivial⟩, rfl, trivial⟩, ⟨trivial, heFlat h3, rfl⟩, trivial⟩
theorem s_mnew : SpecOK Tryz.prog S_mnew.spec := fun a => specD_at (an := []) envOK cw0_ok (g_mnew a)
theorem g_fits0 (a : CdA) : G_fits0 a := by
  rw [vc_fits0]
  intro x0 e0
  refine ⟨?_, ⟨(), ?_⟩⟩
  all_goals (repeat' first | with_reducible apply And.intro | exact trivial | exact rfl)
theorem s_fits0 : SpecOK Tryz.prog S_fits0.spec := fun a => specD_at (an := []) envOK (cwN_ok (fun _ h => h) 3) (fun _ => g_fits0 a)
theorem g_fits1 (a : FtA) : G_fits1 a := by
  rw [vc_fits1]
  intro x0 e0
  refine ⟨by (repeat' first | with_reducible apply And.intro | exact trivial | exact rfl), fun x1 e1 => ⟨fun h => ⟨(), fun k => h (e1.trans k), rfl, trivial⟩, fun h => ⟨(), e1.symm.trans (Classical.not_not.1 h), rfl, trivial⟩⟩⟩
theorem s_fits1 : SpecOK Tryz.prog S_fits1.spec := fun a => specD_at (an := []) envOK (cwN_ok (fun _ h => h) 3) (fun _ => g_fits1 a)
theorem g_fits3 (a : FtA) (hg : a.g.l = 1) : G_fits3 a := by
  rw [vc_fits3]
  intro x0 e0
  refine ⟨by (repeat' first | with_reducible apply And.intro | exact trivial | exact rfl), fun x1 e1 => ⟨fun h => ⟨(), fun k => h (e1.trans k), rfl, trivial⟩, fun h x3 e3 => ⟨fun h3 => absurd (e3.trans (by have : a.3.3 = a.g.l := rfl; rw [this, hg]; rfl)) h3, fun _ => ⟨(), e1.symm.trans (Classical.not_not.1 h), rfl, trivial⟩⟩⟩⟩
theorem s_fits3 : SpecOK Tryz.prog S_fits3.spec := fun a => specD_at (an := []) envOK (cwN_ok (fun _ h => h) 3) (fun h => g_fits3 a h.2)
end Go.Proofs.YtdjnipabfbblnaaGreatDoor
end

/- A program's code: State (what is to be shown). -/
section
set_option maxRecDepth 100000
namespace Go.Proofs.YtdjnipabfbblnaaGreatDoor
open Go.Ev
-- keep cdP cdF num foldI dnum frm Go.Ev.Sli Go.Ev.HV insAt argP rightP hasC farC stepC okAt twoC truthC W32 runC storeC manyC cells4
set_option linter.unusedSectionVars false
variable [Go.Ev.Frozen Tryz.prog]
noncomputable section
def S_stat1 : SpecD where
  f := 85
  α := FtA
  args a := [.pointer (some ⟨13, 0, none⟩), .int .i64 1, a.v.v (13 + 8), .slice none 0 0]
  R a := cdR a.c 13 ++ [(13 + 8, .f a.v.c 21 .gro)]
  n := 13 + 9
  pre a := cdP a.c ∧ ∃ xs, Sli (Value.int .i32) 1 a.v.n a.v.o a.v.l a.v.k a.v.c xs
  outs := [⟨NwO, fun a b => (a.v.l : Int) = a.c.cells ∧ b.l = a.v.l + 49 ∧ ∀ xs, Sli (Value.int .i32) 1 a.v.n a.v.o a.v.l a.v.k a.v.c xs → HE .i32 b.c (xs ++ List.replicate 49 0),
      fun _ b => .tuple ⟨[.agg ⟨[.int .i64 0, tgS (13 + 9) 0 b.l b.l, .int .i64 0]⟩, .int .i64 0]⟩, fun _ b => [(13 + 9, .f b.c 21 .own)], fun _ _ => 13 + 10, fun v _ => renS (13 + 9) (lv (agv (lv (agv v) 0)) 1)⟩,
    ⟨Unit, fun a _ => (a.v.l : Int) ≠ a.c.cells, fun _ _ => .tuple ⟨[.agg ⟨[.int .i64 0, .slice none 0 0, .int .i64 0]⟩, .int .i64 3]⟩, fun _ _ => [], fun _ _ => 13 + 10, fun _ _ => []⟩]
  pick v _ := match lv (agv v) 1 with
    | .int _ z => Int.rec (fun n => Nat.rec 0 (fun _ _ => 1) n) (fun _ => 0) z
    | _ => 0
  find l A := cdK A 13 (lv l 0) fun c q => saK A (13 + 8) (lv l 2) fun v q2 => some (⟨c, v, ⟨true, 0, 0, 0, []⟩⟩, q ++ q2)
def G_stat1 (a : FtA) : Prop := fnW Tryz.prog E0 (cwN (fun c => cwP 1 S_fits1 (cwD Tryz.prog S_cwrd (cwD Tryz.prog S_mnew c))) 3) [] S_stat1.f (S_stat1.args a) (mem (S_stat1.R a) S_stat1.n) (endD Tryz.prog S_stat1 a)
end
end Go.Proofs.YtdjnipabfbblnaaGreatDoor
end

/- A program's code: State is what is told of it. -/
section
set_option maxRecDepth 100000
namespace Go.Proofs.YtdjnipabfbblnaaGreatDoor
open Go.Ev
set_option linter.unusedSectionVars false
variable [Go.Ev.Frozen Tryz.prog]
abbrev QYmnP_1 (a0 : FtA) (a1 : NwO) (a2 : List Value) : Prop := ∀ (b0 : Int), b0 = IntKind.wrap .i64 (a0.1.1 + (0 : Int)) → (((0 : Int) ≤ b0 ∧ b0 ≤ (↑a1.1 : Int) ∧ (↑a1.1 : Int) ≤
 (↑a1.1 : Int)) ∧ (false = true → (↑a1.1 : Int) ≤ (↑a1.1 : Int) ∧ (b0 = (0 : Int) ∨ b0 < (↑a1.1 : Int)))) ∧ ∀ (b1 b2 b3 : Nat), (b1 = if NwO.l a1 = Int.toNat b0 then 0 else 0 +
 Int.toNat b0 * 1) → b2 = Int.toNat (↑a1.1 : Int) - Int.toNat b0 → b3 = a1.1 - Int.toNat b0 → (true = true ∧ true = true ∧ b1 + 0 ≤ List.length a2) ∧ ∀ (b4 : List Value), b4 = lput
 a2 b1 [] → (True ∧ True ∧ True ∧ True ∧ True ∧ True ∧ True ∧ True ∧ True ∧ True ∧ True) ∧ ∃ (b5 : NwO), ((↑a0.2.3 : Int) = a0.1.1 ∧ b5.1 = a0.2.3 + 49 ∧ (∀ (b6 : List Int), Sli
 (Value.int IntKind.i32) 1 a0.2.1 a0.2.2 a0.2.3 a0.2.4 a0.2.5 b6 → HE IntKind.i32 b5.2 (b6 ++ List.replicate 49 (0 : Int)))) ∧ (((0 : Int) = 0 ∧ (0 = 0 ∧ b5.1 = a1.1 ∧ b5.1 = a1.1)
 ∧ (0 : Int) = 0 ∧ True) ∧ (0 : Int) = 0 ∧ True) ∧ (True ∧ FlatL b5.2 ∧ b5.2 = b4) ∧ True
abbrev QYmnP_2 (a0 : CdA) : Prop := True ∧ a0.1 = a0.1 ∧ a0.2 = a0.2 ∧ Z4 a0.3 ∧ Z4 a0.4 ∧ Z4 a0.5 ∧ Z4 a0.6 ∧ Z4 a0.7 ∧ Z4 a0.8 ∧ Z4 a0.9 ∧ a0.10 = a0.10 ∧ a0.11 = a0.11 ∧ a0.12 =
 a0.12 ∧ a0.13 = a0.13 ∧ a0.14 = a0.14 ∧ True
theorem vc_stat1 (a : FtA) : G_stat1 a = ((True ∧ ((1 ≤ a.1.1 ∧ a.1.1 ≤ 200) ∧ 1 ≤ a.1.2 ∧ a.1.2 ≤ 8) ∧ cdF a.1) ∧ ((0 = 0 ∧ (1 : Int) = 1 ∧ Z4 a.2 ∧ (0 = 0 ∧ 0 = 0) ∧ True) ∧ QYmnP_2 a.1 ∧ ZF a.1.3.5 ∧ ZF a.1.4.5 ∧ ZF
a.1.5.5 ∧ ZF a.1.6.5 ∧ ZF a.1.7.5 ∧ ZF a.1.8.5 ∧ ZF a.1.9.5 ∧ ZF a.2.5 ∧ True) ∧ (∀ (_ : Unit), (↑a.2.3 : Int) = a.1.1 → (True ∧ ((1 ≤ a.1.1 ∧ a.1.1 ≤ 200) ∧ 1 ≤ a.1.2 ∧ a.1.2 ≤ 8)
∧ cdF a.1) ∧ ((0 = 0 ∧ True) ∧ QYmnP_2 a.1 ∧ ZF a.1.3.5 ∧ ZF a.1.4.5 ∧ ZF a.1.5.5 ∧ ZF a.1.6.5 ∧ ZF a.1.7.5 ∧ ZF a.1.8.5 ∧ ZF a.1.9.5 ∧ True) ∧ (∀ (_ : Unit), True → (True ∧ 1 ≤
a.1.1 + (49 : Int) ∧ a.1.1 + (49 : Int) ≤ (256 : Int)) ∧ ((a.1.1 + 49 = a.1.1 + (49 : Int) ∧ True) ∧ True) ∧ (∀ (x2 : NwO), (↑x2.1 : Int) = a.1.1 + (49 : Int) ∧ HE IntKind.i32 x2.2
(List.replicate x2.1 (0 : Int)) → (a.2.1 = true → (true = true ∧ true = true ∧ 0 ≤ List.length x2.2) ∧ (∀ (x3 : List Value), x3 = lput x2.2 0 [] → QYmnP_1 a x2 x3)) ∧ (a.2.1 =
false → ∀ (x11 : Nat), x11 = Min.min a.2.3 x2.1 → a.2.2 + x11 * 1 ≤ List.length a.2.5 ∧ ∀ (x12 : List Value), x12 = lwin a.2.5 a.2.2 (x11 * 1) → (true = true ∧ lall oneK x12 = true
∧ 0 + List.length x12 ≤ List.length x2.2) ∧ ∀ (x13 : List Value), x13 = lput x2.2 0 x12 → QYmnP_1 a x2 x13)) ∧ True) ∧ True) ∧ (∀ (_ : Unit), ((↑a.2.3 : Int) = a.1.1 → False) → ∃
(_ : Unit), ((↑a.2.3 : Int) = a.1.1 → False) ∧ (((0 : Int) = 0 ∧ (0 = 0 ∧ 0 = 0) ∧ (0 : Int) = 0 ∧ True) ∧ (3 : Int) = 3 ∧ True) ∧ True) ∧ True) := by kernel_rfl
theorem lput_no (c : List Value) (o : Nat) : lput c o [] = c := by simp [lput]
theorem Rd.dropI {c : List Value} {m i : Nat} {v : Value} : Rd (c.drop m) i v ↔ Rd c (m + i) v := by unfold Rd; rw [List.getElem?_drop]
theorem HW.dropI {α : Type} {f : α → Value} {c : List Value} {xs : List α} (h : HW f c xs) (m : Nat) : HW f (c.drop m) (xs.drop m) := by
  refine ⟨by simp [h.len], fun i x hx => ?_⟩
  rw [List.getElem?_drop] at hx
  have := h.at_ _ _ hx
  rw [Nat.zero_add] at this ⊢
  exact Rd.dropI.2 this
theorem he_lput0 {α : Type} {f : α → Value} {c vs : List Value} {xs ys : List α} (h : HW f c ys) (g : HW f vs xs) : HW f (lput c 0 vs) (xs ++ ys.drop xs.length) := by
  have e : lput c 0 vs = vs ++ c.drop xs.length := by simp [lput, g.len]
  rw [e]; exact g.append (HW.dropI h _)
theorem g_stat1 (a : FtA) (xs : List Int) (hc : cdP a.c) (hx : Sli (Value.int .i32) 1 a.v.n a.v.o a.v.l a.v.k a.v.c xs) : G_stat1 a := by
  have hc0 := hc
  have fv := hx.flat
  obtain ⟨⟨⟨hn0, hn1⟩, hs0, hs1⟩, hf⟩ := hc
  have hf0 := hf
  obtain ⟨f1, f2, f3, f4, f5, f6, f7⟩ := hf
  have a11 : a.1.1 = a.c.cells := rfl
  have a23 : a.2.3 = a.v.l := rfl
  have hl : xs.length = a.v.l := by have := hx.len; omega
  rw [vc_stat1]
  refine ⟨⟨trivial, hc0⟩, by repeat' first | with_reducible apply And.intro | exact trivial | exact rfl | assumption, fun _ he => ⟨⟨trivial, hc0⟩, by repeat' first | with_reducible apply And.intro | exact trivial | exact rfl | assumption, fun _ _ => ⟨⟨trivial, by omega, by omega⟩, by repeat' first | with_reducible apply And.intro | exact trivial | exact rfl | assumption, fun x2 h2 => ⟨fun hn => ?_, fun hn => ?_⟩, trivial⟩, trivial⟩, fun _ he => ⟨(), he, by repeat' first | with_reducible apply And.intro | exact trivial | exact rfl | assumption⟩, trivial⟩
  all_goals
    obtain ⟨h2l, h2⟩ := h2
    have h2n := h2.len
    have hrl : (List.replicate x2.l (0 : Int)).length = x2.l := by simp
    have e49 : x2.l = a.v.l + 49 := by have : x2.1 = x2.l := rfl; omega
    have x21 : x2.1 = x2.l := rfl
  · refine ⟨⟨rfl, rfl, Nat.zero_le _⟩, fun x3 e3 x4 e4 => ?_⟩
    have hnil := hx.nilE hn
    have e0 : a.v.l = 0 := by rw [← hl, hnil]; rfl
    omega
  · refine fun x11 e11 => ⟨?_, fun x12 e12 => ⟨⟨rfl, ?_, ?_⟩, fun x13 e13 x14 e14 => ?_⟩⟩
    · have := hx.fit hn; have : x11 = a.v.l := by omega
      rw [this]; assumption
    all_goals
      have ex : x11 = a.v.l := by omega
      subst ex
      have hw : HE .i32 x12 xs := by rw [e12]; exact hx.win hn
    · exact hw.oneK
    · have := hw.len; have : x2.2 = x2.c := rfl; rw [this]; omega
    · have hp : HE .i32 x13 (xs ++ List.replicate 49 0) := by
        rw [e13]
        have := he_lput0 h2 hw
        rwa [List.drop_replicate, hl, show x2.l - a.v.l = 49 by omega] at this
      have hpl := hp.len
      have e14' : x14 = a.c.cells := by rw [e14, wrap_sm (by omega)]; omega
      refine ⟨⟨by omega, fun h => (nomatch h)⟩, fun x15 x16 x17 e15 e16 e17 => ⟨⟨rfl, rfl, ?_⟩, fun x18 e18 => ?_⟩⟩
      case refine_2 =>
        have hq : HE .i32 x18 (xs ++ List.replicate 49 0) := by rw [e18, lput_no]; exact hp
        have fq := heFlat hq
        exact ⟨by repeat' first | with_reducible apply And.intro | exact trivial | exact rfl | assumption, ⟨x2.l, x18⟩, ⟨he, e49, fun ys hy => by rw [Sli.uniqI hy hx]; exact hq⟩, by repeat' first | with_reducible apply And.intro | exact trivial | exact rfl | assumption⟩
      have : x15 ≤ a.v.l := by
        rw [e15]; split <;> omega
      rw [List.length_append, List.length_replicate] at hpl
      omega
theorem s_stat1 : SpecOK Tryz.prog S_stat1.spec := fun a K ⟨hc, xs, hx⟩ hq => specD_at (an := []) envOK (cwN_ok (fun _ h => cwP_ok s_fits1 (cwD_ok s_cwrd (cwD_ok s_mnew h))) 3) (fun _ => g_stat1 a xs hc hx) K ⟨hc, xs, hx⟩ hq
end Go.Proofs.YtdjnipabfbblnaaGreatDoor
end
