/- Tables within tables: what is paid as they stand, for each depth. -/
import Derived.Test.YtfkacmmcgncooaaGreatDoorYn1
import Derived.Test.YtfkacmmcgncooaaGreatDoorYd11P
import Derived.Test.YtfkacmmcgncooaaGreatDoorHkK1
import Derived.Test.YtfkacmmcgncooaaGreatDoorYx0
import Derived.Test.YtfkacmmcgncooaaGreatDoorYp3
section
set_option maxRecDepth 100000
namespace Go.Proofs.YtfkacmmcgncooaaGreatDoor
open Go.Ev
open Go.RowKit (Below)
set_option linter.unusedSectionVars false
variable [Go.Ev.Frozen Tryz.prog]
noncomputable section
def gvOK (v : GvA) : Prop := isGx v.g v.p ∧ smQ v.x ∧ smQ v.y
def allOK (d : Nat) (a : PyA) : Prop := nth4 d (gvOK a.a) (gvOK a.a ∧ gvOK a.b) (gvOK a.a ∧ gvOK a.b ∧ gvOK a.c) (gvOK a.a ∧ gvOK a.b ∧ gvOK a.c ∧ gvOK a.e)
end
end Go.Proofs.YtfkacmmcgncooaaGreatDoor
end

/- Tables within tables: what is paid as they stand is as is told. -/
section
set_option maxRecDepth 100000
namespace Go.Proofs.YtfkacmmcgncooaaGreatDoor
open Go.Ev
open Go.RowKit (Below)
set_option linter.unusedSectionVars false
variable [Frozen Tryz.prog]
end Go.Proofs.YtfkacmmcgncooaaGreatDoor
end

/- Tables within tables: what is paid as they stand, for each depth, is as is told. -/
section
set_option maxRecDepth 100000
namespace Go.Proofs.YtfkacmmcgncooaaGreatDoor
open Go.Ev
open Go.RowKit (Below)
set_option linter.unusedSectionVars false
variable [Go.Ev.Frozen Tryz.prog]
end Go.Proofs.YtfkacmmcgncooaaGreatDoor
end

/- What is paid is all that there is (plain). -/
section
set_option maxRecDepth 100000
namespace Go.Proofs.YtfkacmmcgncooaaGreatDoor
open Go.Ev
set_option linter.unusedSectionVars false
variable [Go.Ev.Frozen Tryz.prog]
noncomputable section
def totL (d : Nat) (t : PyA) : Int := nth4 d (t.a.x + t.a.y) (t.a.x + t.a.y + (t.b.x + t.b.y)) (t.a.x + t.a.y + (t.b.x + t.b.y) + (t.c.x + t.c.y)) (t.a.x + t.a.y + (t.b.x + t.b.y) + (t.c.x + t.c.y) + (t.e.x + t.e.y))
end
end Go.Proofs.YtfkacmmcgncooaaGreatDoor
end

/- The example is known; are acts few? (what is to be shown) -/
section
set_option maxRecDepth 100000
set_option linter.constructorNameAsVariable false
namespace Go.Proofs.YtfkacmmcgncooaaGreatDoor
open Go.RowKit Go.Ev
-- keep Go.Proofs.Tryz.prog Go.Ev.FX twoX actX1 actsX cells0 cells1 cells2 cells4 cells5 cells6 cells8 cells9 cells10
variable [Frozen Tryz.prog]
def actX1 (b p : Nat) : Prop := ∃ (w t z h : Int) (v : Option Addr) (l c : Nat), (FX Tryz.prog b p (.int .u8 w) ∧ FX Tryz.prog b (p + 1) (.int .i64 t) ∧ FX Tryz.prog b (p + 2) (.int .i32 z) ∧ FX Tryz.prog b (p + 3) (.int .u8 h) ∧ FX Tryz.prog b (p + 4) (.slice v l c)) ∧
  ((0 ≤ w ∧ w < 256) ∧ inR z ∧ 0 ≤ h ∧ h < 256) ∧ twoX v l c
def actsX (v : Option Addr) (l : Nat) : Prop := l ≤ 9223372036854775807 ∧ ∀ i, i < l → ∃ b o, v = some ⟨b, o, none⟩ ∧ actX1 b (o + i * 5)
structure FwA where
  v : Option Addr
  l : Nat
  c : Nat
structure NmB where
  n : Int
noncomputable section
def S_known : SpecD where
  f := 7
  α := Unit
  args _ := []
  R _ := [(0, .f cells0 327 .ro), (1, .f cells1 333 .ro), (2, .f cells2 356 .ro), (4, .f cells4 327 .ro), (5, .f cells5 368 .ro), (6, .f cells6 381 .ro), (8, .f cells8 385 .ro), (9, .f cells9 388 .ro), (10, .f cells10 389 .ro)]
  n := 12
  pre _ := True
  outs := [⟨Unit, fun _ _ => True, fun _ _ => .bool true, fun _ _ => [], fun _ _ => 12, fun _ _ => []⟩]
  pick _ _ := 0
  find _ _ := some ((), [])
def S_few : SpecD where
  f := 8
  α := FwA
  args a := [.iface EXT (.slice a.v a.l a.c)]
  R _ := []
  n := 12
  pre a := actsX a.v a.l
  outs := [⟨Unit, fun _ _ => True, fun _ _ => .bool false, fun _ _ => [], fun _ _ => 12, fun _ _ => []⟩,
    ⟨Unit, fun a _ => a.l ≤ 40, fun _ _ => .bool true, fun _ _ => [], fun _ _ => 12, fun _ _ => []⟩]
  pick v _ := match v with
    | .bool b => Bool.rec 0 1 b
    | _ => 0
  find l _ := xsK (lv l 0) fun v l c => some (⟨v, l, c⟩, [])
def la_few (a : FwA) : LA where
  α := NmB
  at_ e := ⟨[(0, .iface EXT (.slice a.v a.l a.c)), (5, .iface EXT (.slice a.v a.l a.c)), (6, tgI .i64 a.l), (7, tgI .i64 e.n)], [], 12⟩
  J e := 0 ≤ e.n ∧ e.n ≤ a.l
  μ e := (a.l - e.n).toNat
  ren _ := []
def G_few (a : FwA) : Prop := fnW Tryz.prog E0 (cwX (fun c => c) 2) [some (la_few a)] S_few.f (S_few.args a) (mem (S_few.R a) S_few.n) (endD Tryz.prog S_few a)
end
end Go.Proofs.YtfkacmmcgncooaaGreatDoor
end

/- The example is known; are acts few? -/
section
set_option maxRecDepth 100000
set_option linter.constructorNameAsVariable false
namespace Go.Proofs.YtfkacmmcgncooaaGreatDoor
open Go.RowKit Go.Ev
set_option linter.unusedSectionVars false
variable [Go.Ev.Frozen Tryz.prog]
noncomputable section
def W_G_few_0 : FwA → Option Addr := fun (a : FwA) => a.1
def W_G_few_1 : Nat → Nat → Option Addr := fun (x3 x4 : Nat) => some (Addr.mk x3 x4 none)
end
theorem vc_few (a : FwA) : G_few a = (∀ (x0 : Int), x0 = (↑a.2 : Int) → ∃ (x1 : NmB), (0 ≤ x1.1 ∧ x1.1 ≤ (↑a.2 : Int)) ∧ ((Value.slice a.1 a.2 a.3 = Value.slice a.1 a.2 a.3 ∧ Value.slice a.1 a.2 a.3 = Value.slice a.1
a.2 a.3 ∧ (↑a.2 : Int) = x0 ∧ x1.1 = 0 ∧ True) ∧ True ∧ True) ∧ ∀ (x2 : NmB), 0 ≤ x2.1 ∧ x2.1 ≤ (↑a.2 : Int) → (x2.1 < (↑a.2 : Int) → (0 ≤ x2.1 ∧ x2.1 < (↑a.2 : Int)) ∧ (∃ (x3 x4 :
Nat), W_G_few_0 a = W_G_few_1 x3 x4 ∧ ∀ (x5 : Nat), x5 = x4 + Int.toNat x2.1 * 5 → ∃ (x6 : Int), FX Proofs.Tryz.prog x3 (Nat.add x5 0) (Value.int .u8 x6) ∧ ∃ (x7 : Int), FX
Proofs.Tryz.prog x3 (Nat.add x5 1) (Value.int .i64 x7) ∧ ∃ (x8 : Int), FX Proofs.Tryz.prog x3 (Nat.add x5 2) (Value.int .i32 x8) ∧ ∃ (x9 : Int), FX Proofs.Tryz.prog x3 (Nat.add x5
3) (Value.int .u8 x9) ∧ ∃ (x10 : Option Addr) (x11 x12 : Nat), FX Proofs.Tryz.prog x3 (Nat.add x5 4) (Value.slice x10 x11 x12) ∧ ∀ (x13 : Int), x13 = (↑x11 : Int) → ((10 : Int) <
x13 → (∃ (_ : Unit), True ∧ false = false ∧ True)) ∧ (¬((10 : Int) < x13) → ∀ (x15 : Int), x15 = IntKind.wrap .i64 (x2.1 + (1 : Int)) → ∃ (x16 : NmB), (0 ≤ x16.1 ∧ x16.1 ≤ (↑a.2 :
Int)) ∧ Int.toNat ((↑a.2 : Int) - x16.1) < Int.toNat ((↑a.2 : Int) - x2.1) ∧ (Value.slice a.1 a.2 a.3 = Value.slice a.1 a.2 a.3 ∧ Value.slice a.1 a.2 a.3 = Value.slice a.1 a.2 a.3
∧ (↑a.2 : Int) = (↑a.2 : Int) ∧ x16.1 = x15 ∧ True) ∧ True ∧ True))) ∧ (¬(x2.1 < (↑a.2 : Int)) → ∀ (x17 : Int), x17 = (↑a.2 : Int) → (x17 ≤ (40 : Int) → (∃ (_ : Unit), Nat.le a.2
40 ∧ true = true ∧ True)) ∧ (¬(x17 ≤ (40 : Int)) → ∃ (_ : Unit), True ∧ false = false ∧ True))) := by kernel_rfl
theorem known38_run : resIs (.bool true) (evCallH Tryz.prog E0 (allC [relocCall hkK17, heldH]) 300 7 [] ⟨putAll G0 .e, 12⟩) = true := by kernel_rfl
noncomputable section
abbrev globR : List (Nat × PO) := [(0, .f cells0 327 .ro), (1, .f cells1 333 .ro), (2, .f cells2 356 .ro), (4, .f cells4 327 .ro), (5, .f cells5 368 .ro), (6, .f cells6 381 .ro), (8, .f cells8 385 .ro), (9, .f cells9 388 .ro), (10, .f cells10 389 .ro)]
end
theorem globs : mem globR 12 = ⟨putAll G0 .e, 12⟩ := by kernel_rfl
theorem wv_true (r : Nat → Option Nat) : wv r 5 (.bool true) (.bool true) := by
  first
    | exact (rfl : true = true)
    | exact trivial
    | (show wvS r (.bool true) (usym (.bool true)); exact (rfl : true = true))
    | (show wvS r (.bool true) (.bool true); unfold wvS; exact rfl)
    | simp [wv, wvS]
theorem known_of {hk : Caller → Caller} (hh : HookOK Tryz.prog hk) (hr : resIs (.bool true) (evCallH Tryz.prog E0 hk 300 7 [] ⟨putAll G0 .e, 12⟩) = true) : SpecOK Tryz.prog S_known.spec := fun a K _ hq => by
  cases hev : evCallH Tryz.prog E0 hk 300 7 [] ⟨putAll G0 .e, 12⟩ with
  | none => rw [hev] at hr; cases hr
  | some p =>
    obtain ⟨v1, B⟩ := p
    rw [hev] at hr
    obtain rfl := veq6_eq (show veq6 v1 (.bool true) = true from hr)
    have hsem : FnSem Tryz.prog 7 [] (mem globR 12) (.bool true) B := fun σ w args' hR ha => by
      rw [globs] at hR ⊢
      exact evCallH_ok envOK hh 300 _ [] _ _ B hev σ w args' hR ha
    exact ⟨.bool true, [], 12, hq.1 () trivial, fun _ _ _ _ h => (nomatch h), fnSem_seen rfl hsem (l := []) (cpb_iff.2 ⟨by kernel_rfl, wv_true _, trivial⟩)⟩
theorem s_known : SpecOK Tryz.prog S_known.spec := known_of (allC_cons hkK17_ok (allC_cons heldH_ok allC_nil)) known38_run
theorem g_few (a : FwA) (hp : actsX a.v a.l) : GW (G_few a) := by
  obtain ⟨hl, ha⟩ := hp
  refine ⟨?_⟩
  rw [vc_few]
  intro x0 e0
  refine ⟨⟨0⟩, ⟨Int.le_refl _, by show (0 : Int) ≤ a.l; omega⟩, ?_, fun e he => ?_⟩
  · have e0 := e0.symm
    (and_intros<;>first|trivial|rfl)
  · obtain ⟨n⟩ := e
    obtain ⟨h1, h2⟩ := he
    have h1 : 0 ≤ n := h1
    have h2 : n ≤ a.l := h2
    refine ⟨fun h3 => ?_, fun h3 => ?_⟩
    · have h3 : n < a.l := h3
      refine ⟨⟨h1, h3⟩, ?_⟩
      obtain ⟨b, o, hv, w, t, z, h, v, l, c, ⟨q1, q2, q3, q4, q5⟩, -, -⟩ := ha n.toNat (by omega)
      refine ⟨b, o, hv, fun p ep => ⟨w, by rw [ep]; exact q1, t, by rw [ep]; exact q2, z, by rw [ep]; exact q3, h, by rw [ep]; exact q4, v, l, c, by rw [ep]; exact q5, fun x13 _ => ⟨fun _ => ?_, fun _ => ?_⟩⟩⟩
      · (repeat(apply And.intro;focus(and_intros<;>first|trivial|rfl)))
        refine ⟨(), ?_⟩
        (and_intros<;>first|trivial|rfl)
      · (repeat(apply And.intro;focus(and_intros<;>first|trivial|rfl)))
        intro x e
        rw [wr64 (by show _ ≤ n + 1 ∧ n + 1 ≤ _; omega)] at e
        refine ⟨⟨n + 1⟩, ⟨by show 0 ≤ n + 1; omega, by show n + 1 ≤ (a.l : Int); omega⟩, by show ((a.l : Int) - (n + 1)).toNat < ((a.l : Int) - n).toNat; omega, ?_⟩
        have e := e.symm
        (and_intros<;>first|trivial|rfl)
    · (repeat(apply And.intro;focus(and_intros<;>first|trivial|rfl)))
      intro x e
      refine ⟨fun h => ?_, fun h => ?_⟩
      · (repeat(apply And.intro;focus(and_intros<;>first|trivial|rfl)))
        refine ⟨(), by show a.l ≤ 40; omega, ?_⟩
        (and_intros<;>first|trivial|rfl)
      · (repeat(apply And.intro;focus(and_intros<;>first|trivial|rfl)))
        refine ⟨(), ?_⟩
        (and_intros<;>first|trivial|rfl)
theorem s_few : SpecOK Tryz.prog S_few.spec := fun a => specG_at (an := [some (la_few a)]) envOK (cwX_ok (fun _ h => h) 2) fun hp => g_few a hp
end Go.Proofs.YtfkacmmcgncooaaGreatDoor
end

/- The law of money (what is to be shown). -/
section
set_option maxRecDepth 100000
namespace Go.Proofs.YtfkacmmcgncooaaGreatDoor
open Go.Ev
-- keep Go.Proofs.Tryz.prog Go.Ev.FX twoX actX1 actsX isG isGx smQ turnG payR doP doQ allS sumX sumY actG monJ errQ movQ begQ endQ begM endM cells0 cells1 cells2 cells4 cells5 cells6 cells8 cells9 cells10
variable [Frozen Tryz.prog]
structure BgM where
  g : RuA
  p : PoA
  b : XyB
  u : Int
  v : Int
structure EnM where
  b : XyB
  u : Int
  v : Int
noncomputable section
def OuA.st (o : OuA) (u v : Int) : OuA := ⟨o.r0, o.r1, o.r2, o.r3, o.r4, u, v⟩
def popM (d : Nat) (a : StA) (u v : Int) : List LvV := nth4 d ([]) ([loV (12 + 2) (a.a.st u v)]) ([loV (12 + 2) a.a, loV (12 + 18) (a.b.st u v)]) ([loV (12 + 2) a.a, loV (12 + 18) a.b, loV (12 + 34) (a.c.st u v)])
def begM (a : DoA) (b : BgM) : Prop := begQ a ⟨b.g, b.p, b.b⟩ ∧ b.u = a.s.x - b.b.x ∧ b.v = a.s.y - b.b.y
def endM (d : Nat) (a : DoA) (b : EnM) : Prop := endQ a b.b ∧ b.u = (aroO d a.s).x + b.b.x ∧ b.v = (aroO d a.s).y + b.b.y
def outBM (d : Nat) : Out DoA := ⟨BgM, begM, fun _ _ => .int .i64 0, fun a b => stR 12 (popN d + 16) (d + 1) (ouL d a.s ++ [loV (inB d) (a.s.inn.st b.u b.v), ⟨popN d, popN d + 12, popN d + 15, b.p.ou b.b.x b.b.y⟩]) ++ (ruT b.g (popN d) ++ (poR b.p (popN d + 12) ++ [(12 + 1, .p .dead)])), fun _ _ => popN d + 17, fun _ A => begN d (popN d) A⟩
def outPM (d : Nat) : Out DoA := ⟨EnM, endM d, fun _ _ => .int .i64 0, fun a b => stR 12 (popN d) (d - 1) (popM d a.s b.u b.v) ++ deadR d, fun _ _ => popN d + 1, fun _ A => endN d (popN d) A⟩
def S_doM (d : Nat) (o : List (Out DoA)) : SpecD := { S_do d [] with outs := outM d :: outE d :: o }
abbrev S_doM1 : SpecD := S_doM 1 [outBM 1]
abbrev S_doM2 : SpecD := S_doM 2 [outBM 2, outPM 2]
abbrev S_doM3 : SpecD := S_doM 3 [outBM 3, outPM 3]
abbrev S_doM4 : SpecD := S_doM 4 [outPM 4]
def pvK {β : Type} (A : AW) (c : List Value) (o b : Nat) (k : GvA → List (Nat × Nat) → Option β) : Option β := inK A c o b fun g p x y q => k ⟨g, p, x, y⟩ q
def pyK {β : Type} (d : Nat) (A : AW) (v : Value) (k : PyA → List (Nat × Nat) → Option β) : Option β := ptK v fun i => rowK A i fun h => match lv h 0 with
  | .slice (some ⟨j, _, _⟩) l _ => Bool.rec none (rowK A j fun c => nth4 d
      (pvK A c 0 (12 + 2) fun x q => k ⟨x, x, x, x⟩ ((12, i) :: (12 + 1, j) :: q))
      (pvK A c 0 (12 + 2) fun x q => pvK A c 10 (12 + 18) fun y r => k ⟨x, y, x, x⟩ ((12, i) :: (12 + 1, j) :: (q ++ r)))
      (pvK A c 0 (12 + 2) fun x q => pvK A c 10 (12 + 18) fun y r => pvK A c 20 (12 + 34) fun z s => k ⟨x, y, z, x⟩ ((12, i) :: (12 + 1, j) :: (q ++ (r ++ s))))
      (pvK A c 0 (12 + 2) fun x q => pvK A c 10 (12 + 18) fun y r => pvK A c 20 (12 + 34) fun z s => pvK A c 30 (12 + 50) fun u t => k ⟨x, y, z, u⟩ ((12, i) :: (12 + 1, j) :: (q ++ (r ++ (s ++ t)))))) (Nat.beq l d)
  | _ => none
structure MnA where
  w : Int
  x : Int
  y : Int
  v : Option Addr
  l : Nat
  c : Nat
structure MnB where
  t : PyA
  i : Int
def monJ (d : Nat) (a : MnA) (e : MnB) : Prop := (0 ≤ e.i ∧ e.i ≤ a.l) ∧ allOK d e.t ∧ totL d e.t = a.x + a.y
def pvN (d : Nat) (A : AW) (v : Value) : List (Nat × Nat) := Option.rec [] (fun q => q) (pyK d A v fun _ q => some q)
def deepI (A : AW) (v : Value) : Nat := match lv (rowO A (ptI v)) 0 with
  | .slice _ l _ => l
  | _ => 0
end
end Go.Proofs.YtfkacmmcgncooaaGreatDoor
end

/- The two games: a position is the same as itself. -/
section
set_option maxRecDepth 100000
namespace Go.Proofs.YtfkacmmcgncooaaGreatDoor
open Go.Ev
set_option linter.unusedSectionVars false
variable [Go.Ev.Frozen Tryz.prog]
noncomputable section
def S_gsame : SpecD where
  f := 17
  α := PoA
  args p := [poV p 12, poV p (12 + 3)]
  R p := poR p 12 ++ poR p (12 + 3)
  n := 12 + 6
  pre p := ∃ k j, (k, j) ∈ allG ∧ p = posG k j
  outs := [⟨Unit, fun _ _ => True, fun _ _ => .bool true, fun _ _ => [], fun _ _ => 12 + 6, fun _ _ => []⟩]
  pick _ _ := 0
  find l A := poK A 12 (agv (lv l 0)) fun p q => poK A (12 + 3) (agv (lv l 1)) fun _ r => some (p, q ++ r)
def runSame (q : Nat × Nat) : Bool := ranB (evCallH Tryz.prog E0 (fun c => c) 300 S_gsame.f (S_gsame.args (posG q.1 q.2)) (mem (S_gsame.R (posG q.1 q.2)) S_gsame.n)) (fun v B => seenB Tryz.prog.globals.size S_gsame.n [] v B (.bool true) [] (12 + 6))
end
theorem ran_same : (allG.all runSame) = true := by kernel_rfl
theorem s_gsame : SpecOK Tryz.prog S_gsame.spec := fun a K hp hq => by
  obtain ⟨k, j, hm, hj⟩ := id hp
  have hj : a = posG k j := hj
  subst hj
  have h := List.all_eq_true.1 ran_same (k, j) hm
  unfold runSame at h
  exact spec_run envOK hook_id 300 (S := S_gsame) (a := posG k j) List.mem_cons_self () trivial h K hp hq
end Go.Proofs.YtfkacmmcgncooaaGreatDoor
end

/- What an inner table pays goes into the one around it: the law (what is to be shown). -/
section
set_option maxRecDepth 100000
namespace Go.Proofs.YtfkacmmcgncooaaGreatDoor
open Go.Ev
-- keep Go.Proofs.Tryz.prog Go.Ev.FX twoX actX1 actsX isG isGx smQ turnG payR doP doQ allS sumX sumY actG monJ errQ movQ begQ endQ begM endM popE posG rulG allG cells0 cells1 cells2 cells4 cells5 cells6 cells8 cells9 cells10
structure S4A where
  x : Int
  y : Int
  u : Int
  v : Int
def popE (d : Nat) (a : StA) (b : EnM) : Prop := popQ a b.b ∧ b.u = (aroO d a).x + b.b.x ∧ b.v = (aroO d a).y + b.b.y
variable [Frozen Tryz.prog]
noncomputable section
def S_lsame : SpecD where
  f := 18
  α := S4A
  args _ := [sc 12 2, sc (12 + 1) 2]
  R a := [(12, .p (.row [tgI .i64 a.x, tgI .i64 a.y] 3 .gro)), (12 + 1, .p (.row [tgI .i64 a.u, tgI .i64 a.v] 3 .gro))]
  n := 12 + 2
  pre a := a.x = a.u ∧ a.y = a.v
  outs := [⟨Unit, fun _ _ => True, fun _ _ => .bool true, fun _ _ => [], fun _ _ => 12 + 2, fun _ _ => []⟩]
  pick _ _ := 0
  find l A := blK (lv l 0) fun b => rowK A b fun t => wI (lv t 0) fun x => wI (lv t 1) fun y => blK (lv l 1) fun c => rowK A c fun r => wI (lv r 0) fun u => wI (lv r 1) fun v => some (⟨x, y, u, v⟩, [(12, b), (12 + 1, c)])
def G_lsame (a : S4A) : Prop := fnW Tryz.prog E0 (cwX (fun c => c) 2) [] S_lsame.f (S_lsame.args a) (mem (S_lsame.R a) S_lsame.n) (endD Tryz.prog S_lsame a)
end
end Go.Proofs.YtfkacmmcgncooaaGreatDoor
end

/- Tables within tables: a beginning with parts of one's own (what is to be shown). -/
section
set_option maxRecDepth 100000
namespace Go.Proofs.YtfkacmmcgncooaaGreatDoor
open Go.Ev
-- keep Go.Proofs.Tryz.prog turnG isG isGx smQ rightQ onG erQ posG rulG allG Go.Ev.FX cells2
set_option linter.unusedSectionVars false
variable [Go.Ev.Frozen Tryz.prog]
noncomputable section
def erO (a : PuO) (n : Int) : Prop := (∃ k j, isG a.s.g a.s.p k j ∧ turnG k j < 0 ∧ n = 10) ∨ (onG a.s.g a.s.p ∧ ¬ (a.x ≤ a.s.x ∧ a.y ≤ a.s.y) ∧ n = 21)
def S_pushO (d : Nat) : SpecD where
  f := 14
  α := PuO
  args a := [.pointer (some ⟨12, 0, none⟩), .pointer (some ⟨inB d + 16, 0, none⟩), poT a.p (inB d + 28), sc (inB d + 31) 2]
  R a := (inB d + 31, .p (.row [tgI .i64 a.x, tgI .i64 a.y] 3 .gro)) :: pushR d a.s a.g a.p
  n := inB d + 32
  pre a := (isGx a.s.g a.s.p ∧ isGx a.g a.p) ∧ (smQ a.s.x ∧ smQ a.s.y) ∧ smQ a.x ∧ smQ a.y
  outs := [⟨Unit, fun a _ => onG a.s.g a.s.p ∧ a.x ≤ a.s.x ∧ a.y ≤ a.s.y, fun _ _ => .int .i64 0,
      fun a _ => stR 12 (inB d + 32) (d + 1) (pushL d (inB d + 16) (inB d + 32) a.s a.p ⟨a.x, a.y⟩) ++ (poR a.p (inB d + 33) ++ [(12 + 1, .p .dead)]), fun _ _ => inB d + 37, fun _ A => pushN d (inB d + 32) A⟩,
    ⟨TnB, fun a b => erO a b.k, fun _ b => tgI .i64 b.k, fun a _ => stR 12 (12 + 1) d (stL d a.s), fun _ _ => inB d + 32, fun _ _ => []⟩]
  pick v _ := pickZ v
  find l A := stK d A (lv l 0) fun s q => ruK A (inB d + 16) (lv l 1) fun g r => poK A (inB d + 28) (agv (lv l 2)) fun p t => blK (lv l 3) fun b => rowK A b fun c => wI (lv c 0) fun x => wI (lv c 1) fun y => some (⟨s, g, p, x, y⟩, (inB d + 31, b) :: (q ++ (r ++ t)))
def cwPushO : CW := cwX (fun c => cwD Tryz.prog S_gcheck (cwD Tryz.prog S_gturn (cwD Tryz.prog S_gclone (cwE Tryz.prog S_cl2 c)))) 8
def G_pushO1 (a : PuO) : Prop := fnW Tryz.prog E0 cwPushO [] (S_pushO 1).f ((S_pushO 1).args a) (mem ((S_pushO 1).R a) (S_pushO 1).n) (endD Tryz.prog (S_pushO 1) a)
def G_pushO2 (a : PuO) : Prop := fnW Tryz.prog E0 cwPushO [] (S_pushO 2).f ((S_pushO 2).args a) (mem ((S_pushO 2).R a) (S_pushO 2).n) (endD Tryz.prog (S_pushO 2) a)
def G_pushO3 (a : PuO) : Prop := fnW Tryz.prog E0 cwPushO [] (S_pushO 3).f ((S_pushO 3).args a) (mem ((S_pushO 3).R a) (S_pushO 3).n) (endD Tryz.prog (S_pushO 3) a)
def S_pushO4 : SpecD where
  f := 14
  α := PuO
  args a := [.pointer (some ⟨12, 0, none⟩), .pointer (some ⟨inB 4 + 16, 0, none⟩), poT a.p (inB 4 + 28), sc (inB 4 + 31) 2]
  R a := (inB 4 + 31, .p (.row [tgI .i64 a.x, tgI .i64 a.y] 3 .gro)) :: (stR 12 (12 + 1) 4 (stL 4 a.s) ++ outR (stL 4 a.s ++ [loV (inB 4 + 16) ou0]))
  n := inB 4 + 32
  pre _ := True
  outs := [⟨Unit, fun _ _ => True, fun _ _ => .int .i64 25, fun a _ => stR 12 (12 + 1) 4 (stL 4 a.s), fun _ _ => inB 4 + 32, fun _ _ => []⟩]
  pick _ _ := 0
  find l A := (S_pushO 4).find l A
def G_pushO4 (a : PuO) : Prop := fnW Tryz.prog E0 (cwX (fun c => c) 8) [] S_pushO4.f (S_pushO4.args a) (mem (S_pushO4.R a) S_pushO4.n) (endD Tryz.prog S_pushO4 a)
end
end Go.Proofs.YtfkacmmcgncooaaGreatDoor
end

/- Tables within tables: a beginning with parts of one's own is as is told. -/
section
set_option maxRecDepth 100000
namespace Go.Proofs.YtfkacmmcgncooaaGreatDoor
open Go.Ev
set_option linter.unusedSectionVars false
variable [Go.Ev.Frozen Tryz.prog]
noncomputable section
def W_G_pushO1_0 : Option AO := some (AO.row [Zp 13 0] 85 Md.own)
def W_G_pushO1_1 : PuO → Option AO := fun (a : PuO) => some (AO.row ([Zp 14 0, sc 26 2, sc 27 2, sc 28 2, tgI .i64 a.1.5.4, tgI .i64 a.1.5.5, tgI .i64 a.1.5.6, tgI .i64 a.1.5.7,
 tgI .u64 a.1.5.8, sc 29 2] ++ []) 83 (Md.grown 1))
def W_G_pushO1_2 : PuO → Option AO := fun (a : PuO) => some (AO.row [tgI .i64 a.1.6, tgI .i64 a.1.7] 3 (Md.grown 2))
def W_G_pushO1_3 : PuO → Option AO := fun (a : PuO) => some (AO.row [Zp 30 0, sc 42 2, sc 43 2, sc 44 2, tgI .i64 a.3.4, tgI .i64 a.3.5, tgI .i64 a.3.6, tgI .i64 a.3.7, tgI .u64
 a.3.8, sc 45 2] 83 Md.own)
def W_G_pushO1_4 : Option AO := some (AO.row [Zp 12 0] 27 Md.own)
def W_G_pushO1_5 : Option AO := some (AO.row [sc 13 1] 81 Md.own)
def W_G_pushO2_0 : Option AO := some (AO.row [Zp 13 10] 85 Md.own)
def W_G_pushO2_1 : PuO → Option AO := fun (a : PuO) => some (AO.row ([Zp 14 0, sc 26 2, sc 27 2, sc 28 2, tgI .i64 a.1.1.1, tgI .i64 a.1.1.2, tgI .i64 a.1.1.3, tgI .i64 a.1.1.4,
 tgI .u64 a.1.1.5, sc 29 2] ++ ([Zp 30 0, sc 42 2, sc 43 2, sc 44 2, tgI .i64 a.1.5.4, tgI .i64 a.1.5.5, tgI .i64 a.1.5.6, tgI .i64 a.1.5.7, tgI .u64 a.1.5.8, sc 45 2] ++ [])) 83
 (Md.grown 2))
def W_G_pushO2_2 : PuO → Option AO := fun (a : PuO) => some (AO.row [tgI .i64 a.1.6, tgI .i64 a.1.7] 3 (Md.grown 2))
def W_G_pushO2_3 : PuO → Option AO := fun (a : PuO) => some (AO.row [Zp 46 0, sc 58 2, sc 59 2, sc 60 2, tgI .i64 a.3.4, tgI .i64 a.3.5, tgI .i64 a.3.6, tgI .i64 a.3.7, tgI .u64
 a.3.8, sc 61 2] 83 Md.own)
def W_G_pushO2_4 : Option AO := some (AO.row [Zp 12 0] 27 Md.own)
def W_G_pushO2_5 : Option AO := some (AO.row [sc 13 2] 81 Md.own)
def W_G_pushO3_0 : Option AO := some (AO.row [Zp 13 20] 85 Md.own)
def W_G_pushO3_1 : PuO → Option AO := fun (a : PuO) => some (AO.row ([Zp 14 0, sc 26 2, sc 27 2, sc 28 2, tgI .i64 a.1.1.1, tgI .i64 a.1.1.2, tgI .i64 a.1.1.3, tgI .i64 a.1.1.4,
 tgI .u64 a.1.1.5, sc 29 2] ++ ([Zp 30 0, sc 42 2, sc 43 2, sc 44 2, tgI .i64 a.1.2.1, tgI .i64 a.1.2.2, tgI .i64 a.1.2.3, tgI .i64 a.1.2.4, tgI .u64 a.1.2.5, sc 45 2] ++ ([Zp 46 0,
 sc 58 2, sc 59 2, sc 60 2, tgI .i64 a.1.5.4, tgI .i64 a.1.5.5, tgI .i64 a.1.5.6, tgI .i64 a.1.5.7, tgI .u64 a.1.5.8, sc 61 2] ++ []))) 83 (Md.grown 3))
def W_G_pushO3_2 : PuO → Option AO := fun (a : PuO) => some (AO.row [tgI .i64 a.1.6, tgI .i64 a.1.7] 3 (Md.grown 2))
def W_G_pushO3_3 : PuO → Option AO := fun (a : PuO) => some (AO.row [Zp 62 0, sc 74 2, sc 75 2, sc 76 2, tgI .i64 a.3.4, tgI .i64 a.3.5, tgI .i64 a.3.6, tgI .i64 a.3.7, tgI .u64
 a.3.8, sc 77 2] 83 Md.own)
def W_G_pushO3_4 : Option AO := some (AO.row [Zp 12 0] 27 Md.own)
def W_G_pushO3_5 : Option AO := some (AO.row [sc 13 3] 81 Md.own)
end
abbrev QYp4P_8 (a0 : PoA) : Prop := 0 = 0 ∧ Z2 ∧ Z2 ∧ Z2 ∧ Z1 a0.4 ∧ Z1 a0.5 ∧ Z1 a0.6 ∧ Z1 a0.7 ∧ Z1 a0.8 ∧ Z2 ∧ True
abbrev QYp4P_1 (a0 : StA) : Prop := (True ∧ (0 = 0 ∧ 3 = 3 ∧ 3 = 3) ∧ True) ∧ (3 = 3 ∧ 0 = 0 ∧ Z2 ∧ Z2 ∧ Z2 ∧ Z1 a0.1.1 ∧ Z1 a0.1.2 ∧ Z1 a0.1.3 ∧ Z1 a0.1.4 ∧ Z1 a0.1.5 ∧ Z2 ∧ 0 = 0
 ∧ Z2 ∧ Z2 ∧ Z2 ∧ Z1 a0.2.1 ∧ Z1 a0.2.2 ∧ Z1 a0.2.3 ∧ Z1 a0.2.4 ∧ Z1 a0.2.5 ∧ Z2 ∧ QYp4P_8 a0.5) ∧ (2 = 2 ∧ Z1 a0.1.6 ∧ Z1 a0.1.7 ∧ True) ∧ (2 = 2 ∧ Z1 a0.2.6 ∧ Z1 a0.2.7 ∧ True) ∧
 (2 = 2 ∧ Z1 a0.6 ∧ Z1 a0.7 ∧ True) ∧ True
abbrev QYp4P_2 (a0 : PuO) (a1 : Int) : Prop := (∃ (b0 b1 : Nat), isG a0.1.4 a0.1.5 b0 b1 ∧ turnG b0 b1 < (0 : Int) ∧ a1 = 10) ∨ onG a0.1.4 a0.1.5 ∧ ¬(a0.4 ≤ a0.1.6 ∧ a0.5 ≤ a0.1.7)
 ∧ a1 = 21
abbrev QYp4P_11 (a0 : PoA) : Prop := (Z2 ∧ Z2 ∧ Z2 ∧ Z1 a0.4 ∧ Z1 a0.5 ∧ Z1 a0.6 ∧ Z1 a0.7 ∧ Z1 a0.8 ∧ True) ∧ True
abbrev QYp4P_16 (a0 : RuA) : Prop := True ∧ True ∧ Z2 ∧ Z1 a0.19.1 ∧ Z1 a0.19.2 ∧ Z1 a0.19.3 ∧ Z1 a0.19.4 ∧ Z1 a0.19.5 ∧ Z1 a0.19.6 ∧ Z1 a0.19.7 ∧ Z1 a0.19.8 ∧ 0 = 0 ∧ (0 = 0 ∧ 1 =
 1 ∧ 1 = 1) ∧ Z2 ∧ True
abbrev QYp4P_20 : Prop := True ∧ FlatL [Value.int .i64 1, Value.int .i64 1] ∧ [Value.int .i64 1, Value.int .i64 1] = [Value.int .i64 1, Value.int .i64 1]
abbrev QYp4P_12 (a0 : RuA) : Prop := True ∧ (2 : Int) = 2 ∧ (2 : Int) = 2 ∧ Z2 ∧ (0 = 0 ∧ 1 = 1 ∧ 1 = 1) ∧ (0 = 0 ∧ Z1 a0.1 ∧ Z1 a0.1) ∧ (0 = 0 ∧ Z1 a0.2 ∧ Z1 a0.2) ∧ (0 = 0 ∧ Z1
 a0.3 ∧ Z1 a0.3) ∧ (0 = 0 ∧ Z1 a0.4 ∧ Z1 a0.4) ∧ (0 = 0 ∧ Z1 a0.5 ∧ Z1 a0.5) ∧ Z1 a0.6 ∧ Z1 a0.7 ∧ Z1 a0.8 ∧ Z1 a0.9 ∧ Z1 a0.10 ∧ True
abbrev QYp4P_21 : Prop := True ∧ FlatL [Value.int .i32 0, Value.int .i32 0] ∧ [Value.int .i32 0, Value.int .i32 0] = [Value.int .i32 0, Value.int .i32 0]
abbrev QYp4P_3 (a0 : StA) : Prop := (0 = 0 ∧ QYp4P_11 a0.5) ∧ QYp4P_16 a0.4 ∧ QYp4P_20 ∧ QYp4P_12 a0.4 ∧ QYp4P_21 ∧ ZF a0.4.11 ∧ ZF a0.4.12 ∧ ZF a0.4.13 ∧ ZF a0.4.14 ∧ ZF a0.4.15 ∧
 ZF a0.4.16 ∧ ZF a0.4.17 ∧ ZF a0.4.18 ∧ ZF a0.5.1 ∧ ZF a0.5.2 ∧ ZF a0.5.3 ∧ ZF cells2 ∧ True
abbrev QYp4P_4 (a0 : PuO) : Prop := (0 = 0 ∧ QYp4P_11 a0.3) ∧ QYp4P_16 a0.2 ∧ QYp4P_20 ∧ QYp4P_12 a0.2 ∧ QYp4P_21 ∧ ZF a0.2.11 ∧ ZF a0.2.12 ∧ ZF a0.2.13 ∧ ZF a0.2.14 ∧ ZF a0.2.15 ∧
 ZF a0.2.16 ∧ ZF a0.2.17 ∧ ZF a0.2.18 ∧ ZF a0.3.1 ∧ ZF a0.3.2 ∧ ZF a0.3.3 ∧ True
abbrev QYp4P_5 (a0 : StA) : Prop := (True ∧ Z2 ∧ True) ∧ (2 = 2 ∧ 0 = 0 ∧ Z2 ∧ Z2 ∧ Z2 ∧ Z1 a0.1.1 ∧ Z1 a0.1.2 ∧ Z1 a0.1.3 ∧ Z1 a0.1.4 ∧ Z1 a0.1.5 ∧ Z2 ∧ QYp4P_8 a0.5) ∧ (2 = 2 ∧
 Z1 a0.1.6 ∧ Z1 a0.1.7 ∧ True) ∧ (2 = 2 ∧ Z1 a0.6 ∧ Z1 a0.7 ∧ True) ∧ True
abbrev QYp4P_6 (a0 : StA) : Prop := (True ∧ (0 = 0 ∧ 1 = 1 ∧ 1 = 1) ∧ True) ∧ (1 = 1 ∧ QYp4P_8 a0.5) ∧ (2 = 2 ∧ Z1 a0.6 ∧ Z1 a0.7 ∧ True) ∧ True
abbrev QYp4P_22 : Prop := True ∧ True ∧ True ∧ True ∧ True ∧ True ∧ True
abbrev QYp4P_7 : Prop := True ∧ True ∧ True ∧ True ∧ QYp4P_22
abbrev QYp4P_9 (a0 : PuO) : Prop := True ∧ (2 ≤ nat_lit 2 ∧ nat_lit 0 + 2 ≤ List.length [tgI .i64 a0.4, tgI .i64 a0.5] ∧ FlatL [tgI .i64 a0.4, tgI .i64 a0.5]) ∧ ∃ (b0 b1 : Int),
 lwin [tgI .i64 a0.4, tgI .i64 a0.5] (nat_lit 0) 2 = [tgI .i64 b0, tgI .i64 b1]
abbrev QYp4P_10 (a0 : PuO) : Prop := ((false = false ∧ nat_lit 0 = 0 ∧ 2 = 2 ∧ nat_lit 2 = 2) ∧ True) ∧ (True ∧ FlatL [tgI .i64 a0.4, tgI .i64 a0.5] ∧ [tgI .i64 a0.4, tgI .i64
 a0.5] = [tgI .i64 a0.4, tgI .i64 a0.5]) ∧ True
abbrev QYp4P_13 (a0 : PuO) (a1 : Int) (a2 : Int) (a3 : XyB) : Prop := (2 = 2 ∧ a0.1.6 - a0.4 = a1 ∧ a0.1.7 - a0.5 = a2 ∧ True) ∧ (2 = 2 ∧ a0.4 = a3.1 ∧ a0.5 = a3.2 ∧ True) ∧ ZF
 a0.3.1 ∧ ZF a0.3.2 ∧ ZF a0.3.3 ∧ True ∧ True
abbrev QYp4P_14 (a0 : PuO) : Prop := 0 = 0 ∧ Z2 ∧ Z2 ∧ Z2 ∧ Z1 a0.1.5.4 ∧ Z1 a0.1.5.5 ∧ Z1 a0.1.5.6 ∧ Z1 a0.1.5.7 ∧ Z1 a0.1.5.8 ∧ Z2 ∧ QYp4P_8 a0.3
abbrev QYp4P_15 (a0 : PoA) : Prop := True ∧ ∃ (b0 b1 : Nat), (b0, b1) ∈ allG ∧ PoA.mk a0.1 a0.2 a0.3 a0.4 a0.5 a0.6 a0.7 a0.8 = posG b0 b1
abbrev QYp4P_17 (a0 : PuO) : Prop := ∃ (b0 : TnB), QYp4P_2 a0 b0.1 ∧ b0.1 = 2 ∧ QYp4P_6 a0.1
abbrev QYp4P_18 (a0 : PuO) : Prop := ∃ (b0 : TnB), QYp4P_2 a0 b0.1 ∧ b0.1 = 2 ∧ QYp4P_5 a0.1
abbrev QYp4P_19 (a0 : PuO) : Prop := ∃ (b0 : TnB), QYp4P_2 a0 b0.1 ∧ b0.1 = 2 ∧ QYp4P_1 a0.1
abbrev QYp4P_23 (a0 : PuO) (a1 : XyB) : Prop := lwin [tgI .i64 a0.4, tgI .i64 a0.5] (nat_lit 0) 2 = [tgI .i64 a1.1, tgI .i64 a1.2]
theorem vc_pushO4 (a : PuO) : G_pushO4 a = ((True ∧ True ∧ QYp4P_7) ∧ ∃ (_ : Unit), True ∧ (25 : Int) = 25 ∧ (True ∧ (0 = 0 ∧ 4 = 4 ∧ 4 = 4) ∧ True) ∧ (4 = 4 ∧ 0 = 0 ∧ Z2 ∧ Z2 ∧ Z2 ∧ Z1 a.1.1.1 ∧ Z1 a.1.1.2 ∧ Z1 a.1.1.3 ∧
Z1 a.1.1.4 ∧ Z1 a.1.1.5 ∧ Z2 ∧ 0 = 0 ∧ Z2 ∧ Z2 ∧ Z2 ∧ Z1 a.1.2.1 ∧ Z1 a.1.2.2 ∧ Z1 a.1.2.3 ∧ Z1 a.1.2.4 ∧ Z1 a.1.2.5 ∧ Z2 ∧ 0 = 0 ∧ Z2 ∧ Z2 ∧ Z2 ∧ Z1 a.1.3.1 ∧ Z1 a.1.3.2 ∧ Z1
a.1.3.3 ∧ Z1 a.1.3.4 ∧ Z1 a.1.3.5 ∧ Z2 ∧ QYp4P_8 a.1.5) ∧ (2 = 2 ∧ Z1 a.1.1.6 ∧ Z1 a.1.1.7 ∧ True) ∧ (2 = 2 ∧ Z1 a.1.2.6 ∧ Z1 a.1.2.7 ∧ True) ∧ (2 = 2 ∧ Z1 a.1.3.6 ∧ Z1 a.1.3.7 ∧
True) ∧ (2 = 2 ∧ Z1 a.1.6 ∧ Z1 a.1.7 ∧ True) ∧ True) := by kernel_rfl
theorem g_pushO4 (a : PuO) : GW (G_pushO4 a) := by
  refine ⟨?_⟩
  rw [vc_pushO4]
  (repeat(apply And.intro;focus(and_intros<;>first|trivial|rfl)))
  refine ⟨(), ?_⟩
  (and_intros<;>first|trivial|rfl)
theorem s_pushO4 : SpecOK Tryz.prog S_pushO4.spec := fun a => specG_at (an := []) envOK (cwX_ok (fun _ h => h) 8) fun _ => g_pushO4 a
theorem cwPushO_ok : CwOK Tryz.prog cwPushO := cwX_ok (fun _ h => cwD_ok s_gcheck (cwD_ok s_gturn (cwD_ok s_gclone (cwE_ok s_cl2 h)))) 8
set_option maxHeartbeats 3200000 in
theorem vc_pushO1 (a : PuO) : G_pushO1 a = ((True ∧ True ∧ QYp4P_7) ∧ (True ∧ (∃ (x0 x1 : Nat), isG a.2 a.3 x0 x1)) ∧ QYp4P_4 a ∧ (∀ (_ : Unit), True → (True ∧ True ∧ (W_G_pushO1_0 = W_G_pushO1_0 ∧ True) ∧ (True ∧ True) ∧
(True ∧ True) ∧ (W_G_pushO1_1 a = W_G_pushO1_1 a ∧ True) ∧ (W_G_pushO1_2 a = W_G_pushO1_2 a ∧ True) ∧ True ∧ True ∧ True ∧ True) ∧ (True ∧ (∃ (x3 x4 : Nat), isG a.1.4 a.1.5 x3 x4))
∧ QYp4P_3 a.1 ∧ (∀ (x5 : TnB), (∃ (x6 x7 : Nat), isG a.1.4 a.1.5 x6 x7 ∧ x5.1 = turnG x6 x7) → (x5.1 < 0 → (True ∧ QYp4P_7) ∧ (∃ (x8 : TnB), QYp4P_2 a x8.1 ∧ x8.1 = 10 ∧ QYp4P_6
a.1)) ∧ (¬(x5.1 < 0) → (True ∧ QYp4P_7) ∧ QYp4P_7 ∧ (0 ≤ a.4 → (a.4 ≤ 1125899906842624 → (0 ≤ a.5 → (a.5 ≤ 1125899906842624 → (a.1.6 < a.4 → (∃ (x11 : TnB), QYp4P_2 a x11.1 ∧ x11.1
= 21 ∧ QYp4P_6 a.1)) ∧ (¬(a.1.6 < a.4) → (a.1.7 < a.5 → (∃ (x14 : TnB), QYp4P_2 a x14.1 ∧ x14.1 = 21 ∧ QYp4P_6 a.1)) ∧ (¬(a.1.7 < a.5) → (∀ (x17 : Int), x17 = IntKind.wrap .i64
(a.1.6 - a.4) → ∀ (x18 : Int), x18 = IntKind.wrap .i64 (a.1.7 - a.5) → QYp4P_15 a.3 ∧ (QYp4P_11 a.3 ∧ ZF a.3.1 ∧ ZF a.3.2 ∧ ZF a.3.3 ∧ True) ∧ (∀ (_ : Unit), True → QYp4P_9 a ∧
QYp4P_10 a ∧ (∀ (x24 : XyB), QYp4P_23 a x24 → ((True ∧ True ∧ True) ∧ (True ∧ True ∧ True) ∧ (True ∧ True ∧ True) ∧ (W_G_pushO1_3 a = W_G_pushO1_3 a ∧ W_G_pushO1_3 a = W_G_pushO1_3
a ∧ True) ∧ True ∧ True ∧ True ∧ True ∧ True ∧ (True ∧ True) ∧ (True ∧ True) ∧ (True ∧ True) ∧ (W_G_pushO1_3 a = W_G_pushO1_3 a ∧ True) ∧ True ∧ True ∧ True ∧ True) ∧
((W_G_pushO1_4 = W_G_pushO1_4 ∧ W_G_pushO1_4 = W_G_pushO1_4 ∧ W_G_pushO1_4 = W_G_pushO1_4 ∧ True) ∧ (W_G_pushO1_4 = W_G_pushO1_4 ∧ W_G_pushO1_4 = W_G_pushO1_4 ∧ True) ∧ (True ∧
True ∧ True) ∧ (True ∧ True ∧ True) ∧ (W_G_pushO1_5 = W_G_pushO1_5 ∧ W_G_pushO1_5 = W_G_pushO1_5 ∧ True) ∧ QYp4P_22) ∧ ∃ (_ : Unit), (onG a.1.4 a.1.5 ∧ a.4 ≤ a.1.6 ∧ a.5 ≤ a.1.7) ∧
(0 : Int) = 0 ∧ (True ∧ Z2 ∧ True) ∧ (2 = 2 ∧ QYp4P_14 a) ∧ QYp4P_13 a x17 x18 x24) ∧ True) ∧ True)))) ∧ (¬(a.5 ≤ 1125899906842624) → QYp4P_17 a)) ∧ (¬(0 ≤ a.5) → QYp4P_17 a)) ∧
(¬(a.4 ≤ 1125899906842624) → QYp4P_17 a)) ∧ (¬(0 ≤ a.4) → QYp4P_17 a))) ∧ True) ∧ True) := by kernel_rfl
set_option maxHeartbeats 1600000 in
theorem g_pushO1 (a : PuO) (hp : isGx a.s.g a.s.p ∧ isGx a.g a.p) (hs : smQ a.s.x ∧ smQ a.s.y) (hq : smQ a.x ∧ smQ a.y) : GW (G_pushO1 a) := by
  obtain ⟨⟨k, j, hi⟩, k2, j2, hi2⟩ := hp
  obtain ⟨⟨s1, s2⟩, s3, s4⟩ := hs
  obtain ⟨⟨q1, q2⟩, q3, q4⟩ := hq
  obtain ⟨f1, f2, f3, f4, f5, f6, f7, f8, f9, f10, f11⟩ := flG_of hi
  obtain ⟨g1, g2, g3, g4, g5, g6, g7, g8, g9, g10, g11⟩ := flG_of hi2
  have f12 := fl11
  have f13 := fl00
  have f14 := glO
  have f15 := fl2t a.x a.y
  refine ⟨?_⟩
  rw [vc_pushO1]
  (repeat(apply And.intro;focus(and_intros<;>first|trivial|rfl)))
  refine ⟨⟨trivial, k2, j2, hi2⟩, by (and_intros<;>first|trivial|rfl), fun _ _ => ?_, trivial⟩
  (repeat(apply And.intro;focus(and_intros<;>first|trivial|rfl)))
  refine ⟨⟨trivial, k, j, hi⟩, by (and_intros<;>first|trivial|rfl), fun t ht => ?_, trivial⟩
  obtain ⟨k', j', hi', ht⟩ := ht
  obtain ⟨rfl, rfl⟩ := isG_inj hi hi'
  refine ⟨fun h0 => ?_, fun h0 => ?_⟩
  · (repeat(apply And.intro;focus(and_intros<;>first|trivial|rfl)))
    refine ⟨⟨10⟩, .inl ⟨k, j, hi, by omega, rfl⟩, ?_⟩
    (and_intros<;>first|trivial|rfl)
  have hon : onG a.s.g a.s.p := ⟨k, j, hi, by omega⟩
  (repeat(apply And.intro;focus(and_intros<;>first|trivial|rfl)))
  refine ⟨fun _ => ⟨fun _ => ?_, fun h => absurd (by omega) h⟩, fun h => absurd q1 h⟩
  (repeat(apply And.intro;focus(and_intros<;>first|trivial|rfl)))
  refine ⟨fun _ => ⟨fun _ => ?_, fun h => absurd (by omega) h⟩, fun h => absurd q3 h⟩
  (repeat(apply And.intro;focus(and_intros<;>first|trivial|rfl)))
  refine ⟨fun p5 => ?_, fun p5 => ?_⟩
  · (repeat(apply And.intro;focus(and_intros<;>first|trivial|rfl)))
    refine ⟨⟨21⟩, .inr ⟨hon, by omega, rfl⟩, ?_⟩
    (and_intros<;>first|trivial|rfl)
  (repeat(apply And.intro;focus(and_intros<;>first|trivial|rfl)))
  refine ⟨fun p6 => ?_, fun p6 => ?_⟩
  · (repeat(apply And.intro;focus(and_intros<;>first|trivial|rfl)))
    refine ⟨⟨21⟩, .inr ⟨hon, by omega, rfl⟩, ?_⟩
    (and_intros<;>first|trivial|rfl)
  (repeat(apply And.intro;focus(and_intros<;>first|trivial|rfl)))
  intro z1 e1
  (repeat(apply And.intro;focus(and_intros<;>first|trivial|rfl)))
  intro z2 e2
  rw [wr64 (by omega)] at e1 e2
  (repeat(apply And.intro;focus(and_intros<;>first|trivial|rfl)))
  refine ⟨⟨trivial, k2, j2, hi2.1, hi2.2.2⟩, by (and_intros<;>first|trivial|rfl), fun _ _ => ?_, trivial⟩
  (repeat(apply And.intro;focus(and_intros<;>first|trivial|rfl)))
  refine ⟨⟨trivial, ⟨Nat.le_refl _, Nat.le_refl _, f15⟩, a.x, a.y, rfl⟩, by (and_intros<;>first|trivial|rfl), fun b hb => ?_, trivial⟩
  have hb : [tgI .i64 a.x, tgI .i64 a.y] = [tgI .i64 b.x, tgI .i64 b.y] := hb
  have e5 : a.x = b.x := by injection hb with h1 h2; injection h1 with _ h1; injection h1
  have e6 : a.y = b.y := by injection hb with h1 h2; injection h2 with h2 _; injection h2 with _ h2; injection h2
  have e1 := e1.symm
  have e2 := e2.symm
  (repeat(apply And.intro;focus(and_intros<;>first|trivial|rfl)))
  refine ⟨(), ⟨hon, by omega, by omega⟩, ?_⟩
  (and_intros<;>first|trivial|rfl)
theorem s_pushO1 : SpecOK Tryz.prog (S_pushO 1).spec := fun a => specG_at (S := S_pushO 1) (an := []) envOK cwPushO_ok fun hp => g_pushO1 a hp.1 hp.2.1 hp.2.2
set_option maxHeartbeats 3200000 in
theorem vc_pushO2 (a : PuO) : G_pushO2 a = ((True ∧ True ∧ QYp4P_7) ∧ (True ∧ (∃ (x0 x1 : Nat), isG a.2 a.3 x0 x1)) ∧ QYp4P_4 a ∧ (∀ (_ : Unit), True → (True ∧ True ∧ (W_G_pushO2_0 = W_G_pushO2_0 ∧ True) ∧ (True ∧ True) ∧
(True ∧ True) ∧ (W_G_pushO2_1 a = W_G_pushO2_1 a ∧ True) ∧ (W_G_pushO2_2 a = W_G_pushO2_2 a ∧ True) ∧ True ∧ True ∧ True ∧ True) ∧ (True ∧ (∃ (x3 x4 : Nat), isG a.1.4 a.1.5 x3 x4))
∧ QYp4P_3 a.1 ∧ (∀ (x5 : TnB), (∃ (x6 x7 : Nat), isG a.1.4 a.1.5 x6 x7 ∧ x5.1 = turnG x6 x7) → (x5.1 < 0 → (True ∧ QYp4P_7) ∧ (∃ (x8 : TnB), QYp4P_2 a x8.1 ∧ x8.1 = 10 ∧ QYp4P_5
a.1)) ∧ (¬(x5.1 < 0) → (True ∧ QYp4P_7) ∧ QYp4P_7 ∧ (0 ≤ a.4 → (a.4 ≤ 1125899906842624 → (0 ≤ a.5 → (a.5 ≤ 1125899906842624 → (a.1.6 < a.4 → (∃ (x11 : TnB), QYp4P_2 a x11.1 ∧ x11.1
= 21 ∧ QYp4P_5 a.1)) ∧ (¬(a.1.6 < a.4) → (a.1.7 < a.5 → (∃ (x14 : TnB), QYp4P_2 a x14.1 ∧ x14.1 = 21 ∧ QYp4P_5 a.1)) ∧ (¬(a.1.7 < a.5) → (∀ (x17 : Int), x17 = IntKind.wrap .i64
(a.1.6 - a.4) → ∀ (x18 : Int), x18 = IntKind.wrap .i64 (a.1.7 - a.5) → QYp4P_15 a.3 ∧ (QYp4P_11 a.3 ∧ ZF a.3.1 ∧ ZF a.3.2 ∧ ZF a.3.3 ∧ True) ∧ (∀ (_ : Unit), True → QYp4P_9 a ∧
QYp4P_10 a ∧ (∀ (x24 : XyB), QYp4P_23 a x24 → ((True ∧ True ∧ True) ∧ (True ∧ True ∧ True) ∧ (True ∧ True ∧ True) ∧ (W_G_pushO2_3 a = W_G_pushO2_3 a ∧ W_G_pushO2_3 a = W_G_pushO2_3
a ∧ True) ∧ True ∧ True ∧ True ∧ True ∧ True ∧ (True ∧ True) ∧ (True ∧ True) ∧ (True ∧ True) ∧ (W_G_pushO2_3 a = W_G_pushO2_3 a ∧ True) ∧ True ∧ True ∧ True ∧ True) ∧
((W_G_pushO2_4 = W_G_pushO2_4 ∧ W_G_pushO2_4 = W_G_pushO2_4 ∧ W_G_pushO2_4 = W_G_pushO2_4 ∧ True) ∧ (W_G_pushO2_4 = W_G_pushO2_4 ∧ W_G_pushO2_4 = W_G_pushO2_4 ∧ True) ∧ (True ∧
True ∧ True) ∧ (True ∧ True ∧ True) ∧ (W_G_pushO2_5 = W_G_pushO2_5 ∧ W_G_pushO2_5 = W_G_pushO2_5 ∧ True) ∧ QYp4P_22) ∧ ∃ (_ : Unit), (onG a.1.4 a.1.5 ∧ a.4 ≤ a.1.6 ∧ a.5 ≤ a.1.7) ∧
(0 : Int) = 0 ∧ (True ∧ (0 = 0 ∧ 3 = 3 ∧ 3 = 3) ∧ True) ∧ (3 = 3 ∧ 0 = 0 ∧ Z2 ∧ Z2 ∧ Z2 ∧ Z1 a.1.1.1 ∧ Z1 a.1.1.2 ∧ Z1 a.1.1.3 ∧ Z1 a.1.1.4 ∧ Z1 a.1.1.5 ∧ Z2 ∧ QYp4P_14 a) ∧ (2 = 2
∧ Z1 a.1.1.6 ∧ Z1 a.1.1.7 ∧ True) ∧ QYp4P_13 a x17 x18 x24) ∧ True) ∧ True)))) ∧ (¬(a.5 ≤ 1125899906842624) → QYp4P_18 a)) ∧ (¬(0 ≤ a.5) → QYp4P_18 a)) ∧ (¬(a.4 ≤ 1125899906842624)
→ QYp4P_18 a)) ∧ (¬(0 ≤ a.4) → QYp4P_18 a))) ∧ True) ∧ True) := by kernel_rfl
set_option maxHeartbeats 1600000 in
theorem g_pushO2 (a : PuO) (hp : isGx a.s.g a.s.p ∧ isGx a.g a.p) (hs : smQ a.s.x ∧ smQ a.s.y) (hq : smQ a.x ∧ smQ a.y) : GW (G_pushO2 a) := by
  obtain ⟨⟨k, j, hi⟩, k2, j2, hi2⟩ := hp
  obtain ⟨⟨s1, s2⟩, s3, s4⟩ := hs
  obtain ⟨⟨q1, q2⟩, q3, q4⟩ := hq
  obtain ⟨f1, f2, f3, f4, f5, f6, f7, f8, f9, f10, f11⟩ := flG_of hi
  obtain ⟨g1, g2, g3, g4, g5, g6, g7, g8, g9, g10, g11⟩ := flG_of hi2
  have f12 := fl11
  have f13 := fl00
  have f14 := glO
  have f15 := fl2t a.x a.y
  refine ⟨?_⟩
  rw [vc_pushO2]
  (repeat(apply And.intro;focus(and_intros<;>first|trivial|rfl)))
  refine ⟨⟨trivial, k2, j2, hi2⟩, by (and_intros<;>first|trivial|rfl), fun _ _ => ?_, trivial⟩
  (repeat(apply And.intro;focus(and_intros<;>first|trivial|rfl)))
  refine ⟨⟨trivial, k, j, hi⟩, by (and_intros<;>first|trivial|rfl), fun t ht => ?_, trivial⟩
  obtain ⟨k', j', hi', ht⟩ := ht
  obtain ⟨rfl, rfl⟩ := isG_inj hi hi'
  refine ⟨fun h0 => ?_, fun h0 => ?_⟩
  · (repeat(apply And.intro;focus(and_intros<;>first|trivial|rfl)))
    refine ⟨⟨10⟩, .inl ⟨k, j, hi, by omega, rfl⟩, ?_⟩
    (and_intros<;>first|trivial|rfl)
  have hon : onG a.s.g a.s.p := ⟨k, j, hi, by omega⟩
  (repeat(apply And.intro;focus(and_intros<;>first|trivial|rfl)))
  refine ⟨fun _ => ⟨fun _ => ?_, fun h => absurd (by omega) h⟩, fun h => absurd q1 h⟩
  (repeat(apply And.intro;focus(and_intros<;>first|trivial|rfl)))
  refine ⟨fun _ => ⟨fun _ => ?_, fun h => absurd (by omega) h⟩, fun h => absurd q3 h⟩
  (repeat(apply And.intro;focus(and_intros<;>first|trivial|rfl)))
  refine ⟨fun p5 => ?_, fun p5 => ?_⟩
  · (repeat(apply And.intro;focus(and_intros<;>first|trivial|rfl)))
    refine ⟨⟨21⟩, .inr ⟨hon, by omega, rfl⟩, ?_⟩
    (and_intros<;>first|trivial|rfl)
  (repeat(apply And.intro;focus(and_intros<;>first|trivial|rfl)))
  refine ⟨fun p6 => ?_, fun p6 => ?_⟩
  · (repeat(apply And.intro;focus(and_intros<;>first|trivial|rfl)))
    refine ⟨⟨21⟩, .inr ⟨hon, by omega, rfl⟩, ?_⟩
    (and_intros<;>first|trivial|rfl)
  (repeat(apply And.intro;focus(and_intros<;>first|trivial|rfl)))
  intro z1 e1
  (repeat(apply And.intro;focus(and_intros<;>first|trivial|rfl)))
  intro z2 e2
  rw [wr64 (by omega)] at e1 e2
  (repeat(apply And.intro;focus(and_intros<;>first|trivial|rfl)))
  refine ⟨⟨trivial, k2, j2, hi2.1, hi2.2.2⟩, by (and_intros<;>first|trivial|rfl), fun _ _ => ?_, trivial⟩
  (repeat(apply And.intro;focus(and_intros<;>first|trivial|rfl)))
  refine ⟨⟨trivial, ⟨Nat.le_refl _, Nat.le_refl _, f15⟩, a.x, a.y, rfl⟩, by (and_intros<;>first|trivial|rfl), fun b hb => ?_, trivial⟩
  have hb : [tgI .i64 a.x, tgI .i64 a.y] = [tgI .i64 b.x, tgI .i64 b.y] := hb
  have e5 : a.x = b.x := by injection hb with h1 h2; injection h1 with _ h1; injection h1
  have e6 : a.y = b.y := by injection hb with h1 h2; injection h2 with h2 _; injection h2 with _ h2; injection h2
  have e1 := e1.symm
  have e2 := e2.symm
  (repeat(apply And.intro;focus(and_intros<;>first|trivial|rfl)))
  refine ⟨(), ⟨hon, by omega, by omega⟩, ?_⟩
  (and_intros<;>first|trivial|rfl)
theorem s_pushO2 : SpecOK Tryz.prog (S_pushO 2).spec := fun a => specG_at (S := S_pushO 2) (an := []) envOK cwPushO_ok fun hp => g_pushO2 a hp.1 hp.2.1 hp.2.2
set_option maxHeartbeats 3200000 in
theorem vc_pushO3 (a : PuO) : G_pushO3 a = ((True ∧ True ∧ QYp4P_7) ∧ (True ∧ (∃ (x0 x1 : Nat), isG a.2 a.3 x0 x1)) ∧ QYp4P_4 a ∧ (∀ (_ : Unit), True → (True ∧ True ∧ (W_G_pushO3_0 = W_G_pushO3_0 ∧ True) ∧ (True ∧ True) ∧
(True ∧ True) ∧ (W_G_pushO3_1 a = W_G_pushO3_1 a ∧ True) ∧ (W_G_pushO3_2 a = W_G_pushO3_2 a ∧ True) ∧ True ∧ True ∧ True ∧ True) ∧ (True ∧ (∃ (x3 x4 : Nat), isG a.1.4 a.1.5 x3 x4))
∧ QYp4P_3 a.1 ∧ (∀ (x5 : TnB), (∃ (x6 x7 : Nat), isG a.1.4 a.1.5 x6 x7 ∧ x5.1 = turnG x6 x7) → (x5.1 < 0 → (True ∧ QYp4P_7) ∧ (∃ (x8 : TnB), QYp4P_2 a x8.1 ∧ x8.1 = 10 ∧ QYp4P_1
a.1)) ∧ (¬(x5.1 < 0) → (True ∧ QYp4P_7) ∧ QYp4P_7 ∧ (0 ≤ a.4 → (a.4 ≤ 1125899906842624 → (0 ≤ a.5 → (a.5 ≤ 1125899906842624 → (a.1.6 < a.4 → (∃ (x11 : TnB), QYp4P_2 a x11.1 ∧ x11.1
= 21 ∧ QYp4P_1 a.1)) ∧ (¬(a.1.6 < a.4) → (a.1.7 < a.5 → (∃ (x14 : TnB), QYp4P_2 a x14.1 ∧ x14.1 = 21 ∧ QYp4P_1 a.1)) ∧ (¬(a.1.7 < a.5) → (∀ (x17 : Int), x17 = IntKind.wrap .i64
(a.1.6 - a.4) → ∀ (x18 : Int), x18 = IntKind.wrap .i64 (a.1.7 - a.5) → QYp4P_15 a.3 ∧ (QYp4P_11 a.3 ∧ ZF a.3.1 ∧ ZF a.3.2 ∧ ZF a.3.3 ∧ True) ∧ (∀ (_ : Unit), True → QYp4P_9 a ∧
QYp4P_10 a ∧ (∀ (x24 : XyB), QYp4P_23 a x24 → ((True ∧ True ∧ True) ∧ (True ∧ True ∧ True) ∧ (True ∧ True ∧ True) ∧ (W_G_pushO3_3 a = W_G_pushO3_3 a ∧ W_G_pushO3_3 a = W_G_pushO3_3
a ∧ True) ∧ True ∧ True ∧ True ∧ True ∧ True ∧ (True ∧ True) ∧ (True ∧ True) ∧ (True ∧ True) ∧ (W_G_pushO3_3 a = W_G_pushO3_3 a ∧ True) ∧ True ∧ True ∧ True ∧ True) ∧
((W_G_pushO3_4 = W_G_pushO3_4 ∧ W_G_pushO3_4 = W_G_pushO3_4 ∧ W_G_pushO3_4 = W_G_pushO3_4 ∧ True) ∧ (W_G_pushO3_4 = W_G_pushO3_4 ∧ W_G_pushO3_4 = W_G_pushO3_4 ∧ True) ∧ (True ∧
True ∧ True) ∧ (True ∧ True ∧ True) ∧ (W_G_pushO3_5 = W_G_pushO3_5 ∧ W_G_pushO3_5 = W_G_pushO3_5 ∧ True) ∧ QYp4P_22) ∧ ∃ (_ : Unit), (onG a.1.4 a.1.5 ∧ a.4 ≤ a.1.6 ∧ a.5 ≤ a.1.7) ∧
(0 : Int) = 0 ∧ (True ∧ (0 = 0 ∧ 4 = 4 ∧ 4 = 4) ∧ True) ∧ (4 = 4 ∧ 0 = 0 ∧ Z2 ∧ Z2 ∧ Z2 ∧ Z1 a.1.1.1 ∧ Z1 a.1.1.2 ∧ Z1 a.1.1.3 ∧ Z1 a.1.1.4 ∧ Z1 a.1.1.5 ∧ Z2 ∧ 0 = 0 ∧ Z2 ∧ Z2 ∧ Z2
∧ Z1 a.1.2.1 ∧ Z1 a.1.2.2 ∧ Z1 a.1.2.3 ∧ Z1 a.1.2.4 ∧ Z1 a.1.2.5 ∧ Z2 ∧ QYp4P_14 a) ∧ (2 = 2 ∧ Z1 a.1.1.6 ∧ Z1 a.1.1.7 ∧ True) ∧ (2 = 2 ∧ Z1 a.1.2.6 ∧ Z1 a.1.2.7 ∧ True) ∧ QYp4P_13
a x17 x18 x24) ∧ True) ∧ True)))) ∧ (¬(a.5 ≤ 1125899906842624) → QYp4P_19 a)) ∧ (¬(0 ≤ a.5) → QYp4P_19 a)) ∧ (¬(a.4 ≤ 1125899906842624) → QYp4P_19 a)) ∧ (¬(0 ≤ a.4) → QYp4P_19 a)))
∧ True) ∧ True) := by kernel_rfl
set_option maxHeartbeats 1600000 in
theorem g_pushO3 (a : PuO) (hp : isGx a.s.g a.s.p ∧ isGx a.g a.p) (hs : smQ a.s.x ∧ smQ a.s.y) (hq : smQ a.x ∧ smQ a.y) : GW (G_pushO3 a) := by
  obtain ⟨⟨k, j, hi⟩, k2, j2, hi2⟩ := hp
  obtain ⟨⟨s1, s2⟩, s3, s4⟩ := hs
  obtain ⟨⟨q1, q2⟩, q3, q4⟩ := hq
  obtain ⟨f1, f2, f3, f4, f5, f6, f7, f8, f9, f10, f11⟩ := flG_of hi
  obtain ⟨g1, g2, g3, g4, g5, g6, g7, g8, g9, g10, g11⟩ := flG_of hi2
  have f12 := fl11
  have f13 := fl00
  have f14 := glO
  have f15 := fl2t a.x a.y
  refine ⟨?_⟩
  rw [vc_pushO3]
  (repeat(apply And.intro;focus(and_intros<;>first|trivial|rfl)))
  refine ⟨⟨trivial, k2, j2, hi2⟩, by (and_intros<;>first|trivial|rfl), fun _ _ => ?_, trivial⟩
  (repeat(apply And.intro;focus(and_intros<;>first|trivial|rfl)))
  refine ⟨⟨trivial, k, j, hi⟩, by (and_intros<;>first|trivial|rfl), fun t ht => ?_, trivial⟩
  obtain ⟨k', j', hi', ht⟩ := ht
  obtain ⟨rfl, rfl⟩ := isG_inj hi hi'
  refine ⟨fun h0 => ?_, fun h0 => ?_⟩
  · (repeat(apply And.intro;focus(and_intros<;>first|trivial|rfl)))
    refine ⟨⟨10⟩, .inl ⟨k, j, hi, by omega, rfl⟩, ?_⟩
    (and_intros<;>first|trivial|rfl)
  have hon : onG a.s.g a.s.p := ⟨k, j, hi, by omega⟩
  (repeat(apply And.intro;focus(and_intros<;>first|trivial|rfl)))
  refine ⟨fun _ => ⟨fun _ => ?_, fun h => absurd (by omega) h⟩, fun h => absurd q1 h⟩
  (repeat(apply And.intro;focus(and_intros<;>first|trivial|rfl)))
  refine ⟨fun _ => ⟨fun _ => ?_, fun h => absurd (by omega) h⟩, fun h => absurd q3 h⟩
  (repeat(apply And.intro;focus(and_intros<;>first|trivial|rfl)))
  refine ⟨fun p5 => ?_, fun p5 => ?_⟩
  · (repeat(apply And.intro;focus(and_intros<;>first|trivial|rfl)))
    refine ⟨⟨21⟩, .inr ⟨hon, by omega, rfl⟩, ?_⟩
    (and_intros<;>first|trivial|rfl)
  (repeat(apply And.intro;focus(and_intros<;>first|trivial|rfl)))
  refine ⟨fun p6 => ?_, fun p6 => ?_⟩
  · (repeat(apply And.intro;focus(and_intros<;>first|trivial|rfl)))
    refine ⟨⟨21⟩, .inr ⟨hon, by omega, rfl⟩, ?_⟩
    (and_intros<;>first|trivial|rfl)
  (repeat(apply And.intro;focus(and_intros<;>first|trivial|rfl)))
  intro z1 e1
  (repeat(apply And.intro;focus(and_intros<;>first|trivial|rfl)))
  intro z2 e2
  rw [wr64 (by omega)] at e1 e2
  (repeat(apply And.intro;focus(and_intros<;>first|trivial|rfl)))
  refine ⟨⟨trivial, k2, j2, hi2.1, hi2.2.2⟩, by (and_intros<;>first|trivial|rfl), fun _ _ => ?_, trivial⟩
  (repeat(apply And.intro;focus(and_intros<;>first|trivial|rfl)))
  refine ⟨⟨trivial, ⟨Nat.le_refl _, Nat.le_refl _, f15⟩, a.x, a.y, rfl⟩, by (and_intros<;>first|trivial|rfl), fun b hb => ?_, trivial⟩
  have hb : [tgI .i64 a.x, tgI .i64 a.y] = [tgI .i64 b.x, tgI .i64 b.y] := hb
  have e5 : a.x = b.x := by injection hb with h1 h2; injection h1 with _ h1; injection h1
  have e6 : a.y = b.y := by injection hb with h1 h2; injection h2 with h2 _; injection h2 with _ h2; injection h2
  have e1 := e1.symm
  have e2 := e2.symm
  (repeat(apply And.intro;focus(and_intros<;>first|trivial|rfl)))
  refine ⟨(), ⟨hon, by omega, by omega⟩, ?_⟩
  (and_intros<;>first|trivial|rfl)
theorem s_pushO3 : SpecOK Tryz.prog (S_pushO 3).spec := fun a => specG_at (S := S_pushO 3) (an := []) envOK cwPushO_ok fun hp => g_pushO3 a hp.1 hp.2.1 hp.2.2
end Go.Proofs.YtfkacmmcgncooaaGreatDoor
end

/- A table that is begun and not played at changes nothing of what is paid: the law (what is to be shown). -/
section
set_option maxRecDepth 100000
namespace Go.Proofs.YtfkacmmcgncooaaGreatDoor
open Go.Ev
-- keep Go.Proofs.Tryz.prog Go.Ev.FX twoX actX1 actsX isG isGx smQ turnG payR doP doQ allS sumX sumY actG monJ errQ movQ begQ endQ begM endM popE posG rulG allG onG erO stQ cells0 cells1 cells2 cells4 cells5 cells6 cells8 cells9 cells10
structure BkA where
  w : Int
  n : Int
  x : Int
  y : Int
  v : Option Addr
  l : Nat
  c : Nat
  p : Int
  q : Int
structure BkB where
  t : PyA
  i : Int
  g : RuA
  p : PoA
def stQ (g : RuA) (p : PoA) : Prop := ∃ k, isG g p k 0
variable [Frozen Tryz.prog]
noncomputable section
def BkA.m (a : BkA) : MnA := ⟨a.w, a.x, a.y, a.v, a.l, a.c⟩
def bkN : Nat := popN 4
end
end Go.Proofs.YtfkacmmcgncooaaGreatDoor
end
