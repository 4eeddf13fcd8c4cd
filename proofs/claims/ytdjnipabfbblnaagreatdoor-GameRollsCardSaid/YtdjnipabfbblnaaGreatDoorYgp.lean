/- A game's rules: play (what is to be shown). -/
import Derived.Test.YtdjnipabfbblnaaGreatDoorYnpP
import Derived.Test.YtdjnipabfbblnaaGreatDoorYmvP
section
set_option maxRecDepth 100000
namespace Go.Proofs.YtdjnipabfbblnaaGreatDoor
open Go.Ev
-- keep cdP cdF gmF PH GH GOk playX rollX behX passX turnX checkX startX VrH inArgs num foldI dnum frm lastC rollZ rollOK inAll Go.Ev.Sli Go.Ev.HV insAt argP rightP hasC farC stepC okAt twoC truthC W32 runC storeC manyC cells4
structure PlA where
  g : GmA
  p : PA
  s : Int
  v : SA
def startX (X : GX) : MS := lastC X.first z49 X.w0 X.m0
set_option linter.unusedSectionVars false
variable [Go.Ev.Frozen Tryz.prog]
noncomputable section
abbrev errP (e : Int) : Value := .tuple ⟨[.agg ⟨[.slice none 0 0, .slice none 0 0, .slice none 0 0, .int .i64 0, .int .i64 0, .int .i64 0, .int .i64 0, .int .u64 0]⟩, .int .i64 e]⟩
abbrev okP (b : PA) (i : Nat) : Value := .tuple ⟨[b.v i, .int .i64 0]⟩
def erPick (v : Value) : Nat := match lv (agv v) 1 with
  | .int _ z => Int.rec (fun n => Nat.rec 0 (fun _ _ => 1) n) (fun _ => 0) z
  | _ => 1
def S_play : SpecD where
  f := 48
  α := PlA
  args a := [.pointer (some ⟨13, 0, none⟩), a.p.v (13 + 11), tgI .i64 a.s, a.v.v (13 + 14)]
  R a := gmR a.g 13 ++ (a.p.R (13 + 11) 50 ++ ((13 + 14, .f a.v.c 21 .gro) :: globM))
  n := 13 + 15
  pre a := GOk a.g ∧ (∃ x, PH a.p x ∧ W32 x.vars) ∧ (∃ gs, argsOf a.v gs ∧ W32 gs) ∧ (0 ≤ a.s ∧ a.s < a.g.stakes.l) ∧ a.v.l ≤ 1000 ∧ (a.p.s1.l = a.g.cells.l ∧ a.p.s2.l = a.g.stakes.l ∧ a.p.s3.l = a.g.stakes.l)
  outs := [⟨PA, fun a b => ∀ x X gs, PH a.p x → GH a.g X → argsOf a.v gs → ∃ y, PH b y ∧ playX X (a.p.ps x) a.s.toNat gs = some (b.ps y), fun _ b => okP b (13 + 15), fun _ b => b.R (13 + 15) 50, fun _ _ => 13 + 18, fun v _ => paN (13 + 15) (agv (lv (agv v) 0))⟩,
    ⟨Unit, fun a _ => ∀ x X gs, PH a.p x → GH a.g X → argsOf a.v gs → playX X (a.p.ps x) a.s.toNat gs = none, fun _ _ => errP 14, fun _ _ => [], fun _ _ => 13 + 18, fun _ _ => []⟩]
  pick v _ := erPick v
  find l A := gmK A 13 (lv l 0) fun g q => paK A (13 + 11) (agv (lv l 1)) fun p r => wI (lv l 2) fun s => saK A (13 + 14) (lv l 3) fun v t => some (⟨g, p, s, v⟩, q ++ (r ++ t))
def G_play (a : PlA) : Prop := fnW Tryz.prog E0 (cwN (fun c => cwP 2 S_run2 (cwD Tryz.prog S_clone (cwD Tryz.prog S_beh c))) 3) [] S_play.f (S_play.args a) (mem (S_play.R a) S_play.n) (endD Tryz.prog S_play a)
end
end Go.Proofs.YtdjnipabfbblnaaGreatDoor
end

/- A game's rules: play is what is told of it. -/
section
set_option maxRecDepth 100000
-- eta
namespace Go.Proofs.YtdjnipabfbblnaaGreatDoor
open Go.Ev
set_option linter.unusedSectionVars false
variable [Go.Ev.Frozen Tryz.prog]
noncomputable section
def W_G_play_0 : PlA → OtO → Option AO := fun (a : PlA) (x4 : OtO) => Option.some (AO.row [Value.iface (1000000007 : Nat) (Value.slice (Option.some (Addr.mk (Nat.add (Nat.succ (Nat.succ (Nat.succ ((13 : Nat) + (15 :
Nat))))) (0 : Nat)) (0 : Nat) Option.none)) (Int.toNat a.1.3.1) x4.1), Value.bool Bool.false, Value.int IntKind.i64 (0 : Int), Value.iface (1000000007 : Nat) (Value.int IntKind.i64
x4.3), Value.iface (1000000007 : Nat) (Value.int IntKind.i64 x4.4), Value.slice Option.none (0 : Nat) (0 : Nat), Value.int IntKind.i64 (0 : Int)] (96 : Nat) Md.own)
def W_G_play_1 : PlA → PX → GX → List Int → Option PsX := fun (a : PlA) (x17 : PX) (x18 : GX) (x19 : List Int) => playX x18 (PsX.mk x17 a.2.4 a.2.5 a.2.6 a.2.7 a.2.8) (Int.toNat a.3) x19
def W_G_play_2 : PA → PX → Option PsX := fun (x16 : PA) (x20 : PX) => Option.some (PsX.mk x20 x16.4 x16.5 x16.6 x16.7 x16.8)
def W_G_play_3 : Option PsX := Option.none
end
set_option maxHeartbeats 3200000 in
abbrev QYgpP_5 : Prop := True ∧ True ∧ True ∧ True ∧ True ∧ True ∧ True ∧ True ∧ True ∧ True ∧ (True ∧ True) ∧ (True ∧ True ∧ True) ∧ True ∧ True ∧ True
abbrev QYgpP_2 (a0 : SA) (a1 : List Int) : Prop := Sli (Value.int IntKind.i32) 1 a0.1 a0.2 a0.3 a0.4 a0.5 a1
abbrev QYgpP_1 (a0 : PlA) : Prop := QYgpP_5 ∧ ∃ (_ : Unit), (∀ (b1 : PX) (b2 : GX) (b3 : List Int), PH a0.2 b1 → GH a0.1 b2 → QYgpP_2 a0.4 b3 → W_G_play_1 a0 b1 b2 b3 = W_G_play_3)
 ∧ (((0 = 0 ∧ 0 = 0) ∧ (0 = 0 ∧ 0 = 0) ∧ (0 = 0 ∧ 0 = 0) ∧ (0 : Int) = 0 ∧ (0 : Int) = 0 ∧ (0 : Int) = 0 ∧ (0 : Int) = 0 ∧ (0 : Int) = 0 ∧ True) ∧ (14 : Int) = 14 ∧ True) ∧ True
abbrev QYgpP_3 (a0 : PlA) : Prop := (↑a0.2.1.3 : Int) = a0.1.3.1 ∧ a0.4.3 = a0.1.3.4.3 ∧ ∀ (b0 : List (Int × Int)) (b1 : List Int), VrH a0.1.3.4 b0 → QYgpP_2 a0.4 b1 → inArgs b0 b1
 a0.4.3
abbrev QYgpP_4 (a0 : CdA) : Prop := True ∧ a0.1 = a0.1 ∧ a0.2 = a0.2 ∧ Z4 a0.3 ∧ Z4 a0.4 ∧ Z4 a0.5 ∧ Z4 a0.6 ∧ Z4 a0.7 ∧ Z4 a0.8 ∧ Z4 a0.9 ∧ a0.10 = a0.10 ∧ a0.11 = a0.11 ∧ a0.12 =
 a0.12 ∧ a0.13 = a0.13 ∧ a0.14 = a0.14 ∧ True
abbrev QYgpP_6 (a0 : PlA) (a1 : PA) : Prop := ∀ (b0 : PX) (b1 : GX) (b2 : List Int), PH a0.2 b0 → GH a0.1 b1 → QYgpP_2 a0.4 b2 → ∃ (b3 : PX), PH a1 b3 ∧ W_G_play_1 a0 b0 b1 b2 =
 W_G_play_2 a1 b3
abbrev QYgpP_7 (a0 : PlA) (a1 : OtO) (a2 : PB) (a3 : PX) : Prop := PH (PA.mk (SA.mk false 0 (Int.toNat a0.1.3.1) a1.1 a1.2) (SA.mk a0.2.2.1 0 a0.2.2.3 a2.2.1 a2.2.2) (SA.mk
 a0.2.3.1 0 a0.2.3.3 a2.3.1 a2.3.2) a0.2.4 a0.2.5 a0.2.6 a0.2.7 a0.2.8) a3
abbrev QYgpP_8 (a0 : SA) (a1 : List Int) : Prop := Sli (Value.int IntKind.i64) 4 a0.1 a0.2 a0.3 a0.4 a0.5 a1
theorem vc_play (a : PlA) : G_play a = ((True ∧ (cdP a.1.3 ∧ a.1.3.4.3 ≤ 4 ∧ a.4.3 ≤ 1000 ∧ 0 ≤ a.1.3.12) ∧ (∃ (x0 : List Int), QYgpP_2 a.2.1 x0 ∧ W32 x0) ∧ (∃ (x1 : List Int), QYgpP_2 a.4 x1 ∧ W32 x1) ∧ (∃ (x2 : List
(Int × Int)), VrH a.1.3.4 x2) ∧ (∃ (x3 : List Int), QYgpP_8 a.1.3.7 x3)) ∧ ((0 = 0 ∧ (2 : Int) = 2 ∧ Z4 a.2.1 ∧ Z4 a.4 ∧ True) ∧ QYgpP_4 a.1.3 ∧ ZF a.1.3.3.5 ∧ ZF a.1.3.4.5 ∧ ZF
a.1.3.5.5 ∧ ZF a.1.3.6.5 ∧ ZF a.1.3.7.5 ∧ ZF a.1.3.8.5 ∧ ZF a.1.3.9.5 ∧ ZF a.2.1.5 ∧ ZF a.4.5 ∧ ZF cells4 ∧ True) ∧ (∀ (x4 : OtO), (QYgpP_3 a ∧ a.1.3.1 ≤ (↑x4.1 : Int)) ∧ (∀ (x7 x8
x9 : List Int), QYgpP_2 a.2.1 x7 → QYgpP_2 a.4 x8 → QYgpP_8 a.1.3.7 x9 → (lastC x7 (x8 ++ List.replicate (49 - List.length x8) (0 : Int)) x9 a.1.3.12).3 = (1 : Int) ∧ HE
IntKind.i32 x4.2 (List.take (Int.toNat a.1.3.1) (lastC x7 (x8 ++ List.replicate (49 - List.length x8) (0 : Int)) x9 a.1.3.12).2) ∧ x4.3 = List.getD (lastC x7 (x8 ++ List.replicate
(49 - List.length x8) (0 : Int)) x9 a.1.3.12).2 (Int.toNat (a.1.3.1 + (5 : Int))) (0 : Int) ∧ x4.4 = List.getD (lastC x7 (x8 ++ List.replicate (49 - List.length x8) (0 : Int)) x9
a.1.3.12).2 (Int.toNat (a.1.3.1 + (6 : Int))) (0 : Int)) → QYgpP_5 ∧ (True ∧ (∃ (x10 : PX), PH a.2 x10) ∧ a.2.1.3 ≤ 1000 ∧ a.2.2.3 ≤ 1000 ∧ a.2.3.3 ≤ 1000) ∧ (((Z4 a.2.1 ∧ Z4 a.2.2
∧ Z4 a.2.3 ∧ ZR a.2) ∧ True) ∧ ZF a.2.1.5 ∧ ZF a.2.2.5 ∧ ZF a.2.3.5 ∧ True) ∧ (∀ (x11 : PB), (∀ (x12 : PX), PH a.2 x12 → PH (PA.mk (SA.mk a.2.1.1 0 a.2.1.3 x11.1.1 x11.1.2) (SA.mk
a.2.2.1 0 a.2.2.3 x11.2.1 x11.2.2) (SA.mk a.2.3.1 0 a.2.3.3 x11.3.1 x11.3.2) a.2.4 a.2.5 a.2.6 a.2.7 a.2.8) x12) → (x4.4 ≠ 0 → (True ∧ gmF a.1 ∧ (∃ (x13 : PX), QYgpP_7 a x4 x11
x13) ∧ (0 ≤ a.3 ∧ a.3 < (↑a.1.1.3 : Int)) ∧ a.1.1.3 ≤ 8 ∧ a.2.2.3 = a.1.1.3) ∧ ((0 = 0 ∧ ((false = false ∧ nat_lit 0 = 0 ∧ Int.toNat a.1.3.1 = Int.toNat a.1.3.1 ∧ x4.1 = x4.1) ∧
(a.2.2.1 = a.2.2.1 ∧ nat_lit 0 = 0 ∧ a.2.2.3 = a.2.2.3 ∧ x11.2.1 = x11.2.1) ∧ (a.2.3.1 = a.2.3.1 ∧ nat_lit 0 = 0 ∧ a.2.3.3 = a.2.3.3 ∧ x11.3.1 = x11.3.1) ∧ a.2.4 = a.2.4 ∧ a.2.5 =
a.2.5 ∧ a.2.6 = a.2.6 ∧ a.2.7 = a.2.7 ∧ a.2.8 = a.2.8 ∧ True) ∧ a.3 = a.3 ∧ True) ∧ (True ∧ True ∧ Z4 a.1.1 ∧ True ∧ True ∧ True ∧ True ∧ True ∧ True ∧ True ∧ True ∧ 0 = 0 ∧ True ∧
Z4 a.1.2 ∧ True) ∧ ZF a.1.1.5 ∧ ZF a.1.2.5 ∧ QYgpP_4 a.1.3 ∧ ZF a.1.3.3.5 ∧ ZF a.1.3.4.5 ∧ ZF a.1.3.5.5 ∧ ZF a.1.3.6.5 ∧ ZF a.1.3.7.5 ∧ ZF a.1.3.8.5 ∧ ZF a.1.3.9.5 ∧ ZF x4.2 ∧ ZF
x11.2.2 ∧ ZF x11.3.2 ∧ True) ∧ (∀ (x14 : KI), (∀ (x15 : PX), QYgpP_7 a x4 x11 x15 → x14.1 = (↑ (behX x15.2 a.1.1.3 (Int.toNat a.3)) : Int)) → ((True ∧ True) ∧ (W_G_play_0 a x4 =
W_G_play_0 a x4 ∧ True) ∧ (True ∧ True) ∧ (W_G_play_0 a x4 = W_G_play_0 a x4 ∧ True) ∧ (True ∧ True) ∧ True ∧ True ∧ True ∧ True ∧ True ∧ True ∧ True ∧ True) ∧ ∃ (x16 : PA),
QYgpP_6 a x16 ∧ (((x16.1.1 = false ∧ x16.1.2 = 0 ∧ x16.1.3 = Int.toNat a.1.3.1 ∧ x16.1.4 = x4.1) ∧ (x16.2.1 = a.2.2.1 ∧ x16.2.2 = 0 ∧ x16.2.3 = a.2.2.3 ∧ x16.2.4 = x11.2.1) ∧
(x16.3.1 = a.2.3.1 ∧ x16.3.2 = 0 ∧ x16.3.3 = a.2.3.3 ∧ x16.3.4 = x11.3.1) ∧ x16.4 = x4.3 ∧ x16.5 = x4.4 ∧ x16.6 = a.3 ∧ x16.7 = x14.1 ∧ x16.8 = 0 ∧ True) ∧ (0 : Int) = 0 ∧ True) ∧
(True ∧ FlatL x16.1.5 ∧ x16.1.5 = x4.2) ∧ (True ∧ FlatL x16.2.5 ∧ x16.2.5 = x11.2.2) ∧ (True ∧ FlatL x16.3.5 ∧ x16.3.5 = x11.3.2) ∧ True) ∧ True) ∧ (¬(x4.4 ≠ 0) → ∃ (x21 : PA),
QYgpP_6 a x21 ∧ (((x21.1.1 = false ∧ x21.1.2 = 0 ∧ x21.1.3 = Int.toNat a.1.3.1 ∧ x21.1.4 = x4.1) ∧ (x21.2.1 = a.2.2.1 ∧ x21.2.2 = 0 ∧ x21.2.3 = a.2.2.3 ∧ x21.2.4 = x11.2.1) ∧
(x21.3.1 = a.2.3.1 ∧ x21.3.2 = 0 ∧ x21.3.3 = a.2.3.3 ∧ x21.3.4 = x11.3.1) ∧ x21.4 = a.2.4 ∧ x21.5 = a.2.5 ∧ x21.6 = a.2.6 ∧ x21.7 = a.2.7 ∧ x21.8 = a.2.8 ∧ True) ∧ (0 : Int) = 0 ∧
True) ∧ (True ∧ FlatL x21.1.5 ∧ x21.1.5 = x4.2) ∧ (True ∧ FlatL x21.2.5 ∧ x21.2.5 = x11.2.2) ∧ (True ∧ FlatL x21.3.5 ∧ x21.3.5 = x11.3.2) ∧ True)) ∧ True) ∧ (∀ (_ : Unit), QYgpP_3
a ∧ (∀ (x29 x30 x31 : List Int), QYgpP_2 a.2.1 x29 → QYgpP_2 a.4 x30 → QYgpP_8 a.1.3.7 x31 → (lastC x29 (x30 ++ List.replicate (49 - List.length x30) (0 : Int)) x31 a.1.3.12).3 =
(2 : Int)) → QYgpP_1 a) ∧ (∀ (_ : Unit), QYgpP_3 a ∧ (∀ (x39 x40 x41 : List Int), QYgpP_2 a.2.1 x39 → QYgpP_2 a.4 x40 → QYgpP_8 a.1.3.7 x41 → (lastC x39 (x40 ++ List.replicate (49
- List.length x40) (0 : Int)) x41 a.1.3.12).3 ≠ (1 : Int) ∧ (lastC x39 (x40 ++ List.replicate (49 - List.length x40) (0 : Int)) x41 a.1.3.12).3 ≠ (2 : Int)) → QYgpP_1 a) ∧ (∀ (_ :
Unit), ((↑a.2.1.3 : Int) = a.1.3.1 ∧ a.4.3 = a.1.3.4.3 → False) → QYgpP_1 a) ∧ (∀ (_ : Unit), ((↑a.2.1.3 : Int) = a.1.3.1 ∧ a.4.3 = a.1.3.4.3) ∧ (∀ (x52 : List (Int × Int)) (x53 :
List Int), VrH a.1.3.4 x52 → QYgpP_2 a.4 x53 → ¬(inArgs x52 x53 a.4.3)) → QYgpP_1 a) ∧ True) := by kernel_rfl
theorem playX_none {X : GX} {s : PsX} {k : Nat} {gs : List Int} (h : ¬ (s.x.vars.length = X.nc ∧ gs.length = X.params.length ∧ inArgs X.params gs gs.length ∧ (lastC s.x.vars (padX gs) X.w2 X.m2).halt = 1)) : playX X s k gs = none := by unfold playX; rw [if_neg h]
theorem playX_some {X : GX} {s : PsX} {k : Nat} {gs : List Int} (h : s.x.vars.length = X.nc ∧ gs.length = X.params.length ∧ inArgs X.params gs gs.length ∧ (lastC s.x.vars (padX gs) X.w2 X.m2).halt = 1) : playX X s k gs = some (rollX X s k (lastC s.x.vars (padX gs) X.w2 X.m2)) := by unfold playX; rw [if_pos h]
theorem he_sli {k : IntKind} {c : List Value} {xs : List Int} {l kk : Nat} (h : HE k c xs) (hl : xs.length = l) (hk : l ≤ kk) : Sli (Value.int k) 1 false 0 l kk c xs := Sli.row h (by omega) hk h.flat
theorem g_play (a : PlA) (x : PX) (X : GX) (gs : List Int) (hg : GOk a.g) (hp : PH a.p x) (hw : W32 x.vars) (hX : GH a.g X) (hW : W32 X.first) (hgs : argsOf a.v gs) (hwg : W32 gs) (hs : 0 ≤ a.s ∧ a.s < a.g.stakes.l) (hv : a.v.l ≤ 1000) (hl : a.p.s1.l = a.g.cells.l ∧ a.p.s2.l = a.g.stakes.l ∧ a.p.s3.l = a.g.stakes.l) : G_play a := by
  have hg0 := hg
  obtain ⟨hf, hcd, hns, hnc, hnf, hnp, ⟨hm0, hm1, hm2, hm3, hm4⟩, -⟩ := hg
  have hf0 := hf
  obtain ⟨g1, g2, gc⟩ := hf
  obtain ⟨f1, f2, f3, f4, f5, f6, f7⟩ := gc
  have fo := opsFlat
  have fv := hgs.flat
  have p1 := hp.p1.flat
  have p2 := hp.p2.flat
  have p3 := hp.p3.flat
  obtain ⟨hl1, hl2, hl3⟩ := hl
  have hcd0 := hcd
  obtain ⟨⟨⟨hn0, hn1⟩, hse0, hse1⟩, -⟩ := hcd
  have hxl : x.vars.length = X.nc := by have := hp.p1.len; have := hX.nc; omega
  have hgl : gs.length = a.v.l := by have := hgs.len; omega
  have hpl : X.params.length = a.g.code.params.l := hX.params.len
  have hnX : a.g.code.cells = (X.nc : Int) := by have := hX.nc; omega
  have hnT : a.g.code.cells.toNat = X.nc := by omega
  have NONE : playX X (a.p.ps x) a.s.toNat gs = none → ∃ _ : Unit, (∀ (y : PX) (Y : GX) (us : List Int), PH a.p y → GH a.g Y → argsOf a.v us → playX Y (a.p.ps y) a.s.toNat us = none) ∧ True := fun h => ⟨(), fun y Y us hy hY hu => by rw [PH.uniq hy hp, GH.uniq hY hX, Sli.uniqI hu hgs]; exact h, trivial⟩
  have SOME : ∀ (b : PA), (∃ y, PH b y ∧ playX X (a.p.ps x) a.s.toNat gs = some (b.ps y)) → ∀ (y : PX) (Y : GX) (us : List Int), PH a.p y → GH a.g Y → argsOf a.v us → ∃ z, PH b z ∧ playX Y (a.p.ps y) a.s.toNat us = some (b.ps z) := fun b h y Y us hy hY hu => by rw [PH.uniq hy hp, GH.uniq hY hX, Sli.uniqI hu hgs]; exact h
  rw [vc_play]
  refine ⟨⟨trivial, ⟨hcd0, hnp, hv, hm2⟩, ⟨x.vars, hp.p1, hw⟩, ⟨gs, hgs, hwg⟩, ⟨X.params, hX.params⟩, X.w2, hX.w2⟩, by repeat' first | with_reducible apply And.intro | exact trivial | exact rfl | assumption, fun x4 h4 => ?_, fun _ h => ?_, fun _ h => ?_, fun _ h => ?_, fun _ h => ?_, trivial⟩
  · obtain ⟨⟨⟨q1, q2, q3⟩, q4⟩, h4⟩ := h4
    obtain ⟨r1, r2, r3, r4⟩ := h4 _ _ _ hp.p1 hgs hX.w2
    have q1 : (a.p.s1.l : Int) = a.g.code.cells := q1
    have q2 : a.v.l = a.g.code.params.l := q2
    have q4 : a.g.code.cells ≤ (x4.k : Int) := q4
    have hin := q3 _ _ hX.params hgs
    have f4' := heFlat r2
    have hm2X : a.g.code.m2 = X.m2 := hX.m2
    have hplay := playX_some (X := X) (s := a.p.ps x) (k := a.s.toNat) (gs := gs) ⟨hxl, by omega, by rw [hgl]; exact hin, by rw [← hm2X]; exact r1⟩
    have hml : (lastC x.vars (padX gs) X.w2 a.g.code.m2).mem.length = X.nc + (gs.length + (49 - gs.length)) := by
      show (runC _ _ _).mem.length = _
      rw [runC_len]
      show (x.vars ++ (gs ++ List.replicate (49 - gs.length) 0)).length = _
      rw [List.length_append, List.length_append, List.length_replicate, hxl]
    have r2' : HE .i32 x4.c ((lastC x.vars (padX gs) X.w2 a.g.code.m2).mem.take X.nc) := by rw [← hnT]; exact r2
    have hS : Sli (Value.int .i32) 1 false 0 a.g.code.cells.toNat x4.k x4.c ((lastC x.vars (padX gs) X.w2 a.g.code.m2).mem.take X.nc) := he_sli r2' (by rw [List.length_take]; omega) (by omega)
    refine ⟨by repeat' first | with_reducible apply And.intro | exact trivial | exact rfl | assumption, ⟨trivial, ⟨x, hp⟩, by show a.p.s1.l ≤ 1000; omega, by show a.p.s2.l ≤ 1000; omega, by show a.p.s3.l ≤ 1000; omega⟩, by repeat' first | with_reducible apply And.intro | exact trivial | exact rfl | assumption, fun x11 h11 => ?_, trivial⟩
    have h11 := h11 x hp
    have f11 := h11.p1.flat
    have f12 := h11.p2.flat
    have f13 := h11.p3.flat
    have n5 : (a.g.code.cells + 5).toNat = X.nc + 5 := by omega
    have n6 : (a.g.code.cells + 6).toNat = X.nc + 6 := by omega
    have hcell : x4.p = (lastC x.vars (padX gs) X.w2 X.m2).mem.getD (X.nc + 5) 0 := by rw [← hm2X, ← n5]; exact r3
    have hside : x4.q = (lastC x.vars (padX gs) X.w2 X.m2).mem.getD (X.nc + 6) 0 := by rw [← hm2X, ← n6]; exact r4
    refine ⟨fun hne => ?_, fun hz => ?_⟩
    · refine ⟨⟨trivial, hf0, ⟨⟨_, x.gone, x.tips⟩, hS, h11.p2, h11.p3⟩, ⟨hs.1, hs.2⟩, by show a.g.stakes.l ≤ 8; omega, hl2⟩, by repeat' first | with_reducible apply And.intro | exact trivial | exact rfl | assumption, fun x14 h14 => ?_, trivial⟩
      have h14 := h14 ⟨_, x.gone, x.tips⟩ ⟨hS, h11.p2, h11.p3⟩
      refine ⟨by repeat' first | with_reducible apply And.intro | exact trivial | exact rfl | assumption, ⟨⟨false, 0, a.g.code.cells.toNat, x4.k, x4.c⟩, ⟨a.p.s2.n, 0, a.p.s2.l, x11.b2.k, x11.b2.c⟩, ⟨a.p.s3.n, 0, a.p.s3.l, x11.b3.k, x11.b3.c⟩, x4.p, x4.q, a.s, x14.k, 0⟩, SOME _ ⟨⟨_, x.gone, x.tips⟩, ⟨hS, h11.p2, h11.p3⟩, ?_⟩, by repeat' first | with_reducible apply And.intro | exact trivial | exact rfl | assumption⟩
      rw [hplay]
      unfold rollX
      rw [← hside, if_neg hne, ← hcell]
      have e1 : ((a.s.toNat : Nat) : Int) = a.s := by omega
      have e2 : x14.k = (behX x.gone X.ns a.s.toNat : Int) := by rw [← hX.ns]; exact h14
      show some (⟨⟨_, x.gone, x.tips⟩, x4.p, x4.q, ((a.s.toNat : Nat) : Int), (behX x.gone X.ns a.s.toNat : Int), 0⟩ : PsX) = some ⟨⟨_, x.gone, x.tips⟩, x4.p, x4.q, a.s, x14.k, 0⟩
      rw [e1, e2, hm2X]
    · refine ⟨⟨⟨false, 0, a.g.code.cells.toNat, x4.k, x4.c⟩, ⟨a.p.s2.n, 0, a.p.s2.l, x11.b2.k, x11.b2.c⟩, ⟨a.p.s3.n, 0, a.p.s3.l, x11.b3.k, x11.b3.c⟩, a.p.r0, a.p.r1, a.p.r2, a.p.r3, a.p.r4⟩, SOME _ ⟨⟨_, x.gone, x.tips⟩, ⟨hS, h11.p2, h11.p3⟩, ?_⟩, by repeat' first | with_reducible apply And.intro | exact trivial | exact rfl | assumption⟩
      rw [hplay]
      unfold rollX
      rw [← hside, if_pos (Classical.not_not.1 hz), hm2X]
  · have hne := h.2 _ _ _ hp.p1 hgs hX.w2
    obtain ⟨u, h1, -⟩ := NONE (playX_none fun q => by
      have q4 := q.2.2.2
      rw [← hX.m2] at q4
      have hne : (lastC x.vars (padX gs) X.w2 a.g.code.m2).halt = 2 := hne
      have q4 : (lastC x.vars (padX gs) X.w2 a.g.code.m2).halt = 1 := q4
      rw [hne] at q4; exact absurd q4 (by decide))
    exact ⟨by repeat' first | with_reducible apply And.intro | exact trivial | exact rfl | assumption, u, h1, by repeat' first | with_reducible apply And.intro | exact trivial | exact rfl | assumption⟩
  · have hne := h.2 _ _ _ hp.p1 hgs hX.w2
    obtain ⟨u, h1, -⟩ := NONE (playX_none fun q => by
      have q4 := q.2.2.2
      rw [← hX.m2] at q4
      exact hne.1 q4)
    exact ⟨by repeat' first | with_reducible apply And.intro | exact trivial | exact rfl | assumption, u, h1, by repeat' first | with_reducible apply And.intro | exact trivial | exact rfl | assumption⟩
  · have hlc : (a.p.s1.l : Int) = a.g.code.cells := by omega
    obtain ⟨u, h1, -⟩ := NONE (playX_none fun q => h ⟨hlc, by have := q.2.1; show a.v.l = a.g.code.params.l; omega⟩)
    exact ⟨by repeat' first | with_reducible apply And.intro | exact trivial | exact rfl | assumption, u, h1, by repeat' first | with_reducible apply And.intro | exact trivial | exact rfl | assumption⟩
  · obtain ⟨u, h1, -⟩ := NONE (playX_none fun q => h.2 _ _ hX.params hgs (by have := q.2.2.1; rw [hgl] at this; exact this))
    exact ⟨by repeat' first | with_reducible apply And.intro | exact trivial | exact rfl | assumption, u, h1, by repeat' first | with_reducible apply And.intro | exact trivial | exact rfl | assumption⟩
theorem s_play : SpecOK Tryz.prog S_play.spec := fun a K ⟨hg, ⟨x, hp, hw⟩, ⟨gs, hgs, hwg⟩, hs, hv, hl⟩ hq => specD_at (an := []) envOK (cwN_ok (fun _ h => cwP_ok s_run2 (cwD_ok s_clone (cwD_ok s_beh h))) 3) (fun _ => by obtain ⟨X, hX, hW⟩ := hg.x; exact g_play a x X gs hg hp hw hX hW hgs hwg hs hv hl) K ⟨hg, ⟨x, hp, hw⟩, ⟨gs, hgs, hwg⟩, hs, hv, hl⟩ hq
end Go.Proofs.YtdjnipabfbblnaaGreatDoor
end

/- Digests: hash.One (what is to be shown). -/
section
set_option maxRecDepth 100000
namespace Go.Proofs.YtdjnipabfbblnaaGreatDoor
open Go.Ev
-- keep num foldI dnum frm stirC rotC xorC addC takeC oneC
def oneC (d : D8) : D8 := frm (xorC (takeC ⟨2611923443488327891, 1376283091369227076, 11820040416388919760, 2⟩ (dnum d.l)).w0 (takeC ⟨2611923443488327891, 1376283091369227076, 11820040416388919760, 2⟩ (dnum d.l)).w2)
set_option linter.unusedSectionVars false
variable [Go.Ev.Frozen Tryz.prog]
noncomputable section
def S_hone : SpecD where
  f := 16
  α := D8
  args a := [a.v]
  R _ := []
  n := 13
  pre a := a.Ok
  outs := [⟨D8, fun a b => b = oneC a, fun _ b => b.v, fun _ _ => [], fun _ _ => 13, fun _ _ => []⟩]
  pick _ _ := 0
  find l _ := d8K (agv (lv l 0)) fun d => some (d, [])
def G_hone (a : D8) : Prop := fnW Tryz.prog E0 (cwN (fun c => cwD Tryz.prog S_takeA (cwD Tryz.prog S_hnum (cwD Tryz.prog S_hfrom c))) 3) [] S_hone.f (S_hone.args a) (mem (S_hone.R a) S_hone.n) (endD Tryz.prog S_hone a)
end
end Go.Proofs.YtdjnipabfbblnaaGreatDoor
end

/- Digests: hash.One is what is told of it. -/
section
set_option maxRecDepth 100000
-- eta
namespace Go.Proofs.YtdjnipabfbblnaaGreatDoor
open Go.Ev
set_option linter.unusedSectionVars false
variable [Go.Ev.Frozen Tryz.prog]
theorem vc_hone (a : D8) : G_hone a = ((True ∧ D8.Ok (D8.mk a.1 a.2 a.3 a.4 a.5 a.6 a.7 a.8) ∧ True) ∧ (((a.1 = a.1 ∧ a.2 = a.2 ∧ a.3 = a.3 ∧ a.4 = a.4 ∧ a.5 = a.5 ∧ a.6 = a.6 ∧ a.7 = a.7 ∧ a.8 = a.8 ∧ True) ∧ True) ∧
True) ∧ (∀ (x0 : Unit), True → (True ∧ True) ∧ ((0 = 0 ∧ dnum [a.1, a.2, a.3, a.4, a.5, a.6, a.7, a.8] = dnum [a.1, a.2, a.3, a.4, a.5, a.6, a.7, a.8] ∧ True) ∧ (True ∧ Int.ofNat
2611923443488327891 = (2611923443488327891 : Int) ∧ Int.ofNat 1376283091369227076 = (1376283091369227076 : Int) ∧ Int.ofNat 11820040416388919760 = (11820040416388919760 : Int) ∧
Int.ofNat 2 = (2 : Int) ∧ True) ∧ True) ∧ (∀ (x1 : W4), x1 = takeC (W4.mk (2611923443488327891 : Int) (1376283091369227076 : Int) (11820040416388919760 : Int) (2 : Int)) (dnum
[a.1, a.2, a.3, a.4, a.5, a.6, a.7, a.8]) → ∀ x2, x2 = IntKind.wrap .u64 (bitsOf BinOp.xor IntKind.u64 x1.1 x1.3) → (True ∧ ((0 : Int) ≤ x2 ∧ x2 < (18446744073709551616 : Int)) ∧
True) ∧ ((x2 = x2 ∧ True) ∧ True) ∧ (∀ (x3 : Unit), True → (True ∧ True ∧ True ∧ True ∧ True ∧ True ∧ True ∧ True ∧ True ∧ True ∧ True ∧ True) ∧ ∃ (x4 : D8), x4 = oneC a ∧ (x4.1 =
x2 % (256 : Int) ∧ x4.2 = x2 / (256 : Int) % (256 : Int) ∧ x4.3 = x2 / (65536 : Int) % (256 : Int) ∧ x4.4 = x2 / (16777216 : Int) % (256 : Int) ∧ x4.5 = x2 / (4294967296 : Int) %
(256 : Int) ∧ x4.6 = x2 / (1099511627776 : Int) % (256 : Int) ∧ x4.7 = x2 / (281474976710656 : Int) % (256 : Int) ∧ x4.8 = x2 / (72057594037927936 : Int) % (256 : Int) ∧ True) ∧
True) ∧ True) ∧ True) ∧ True) := by kernel_rfl
theorem g_hone (a : D8) (h : a.Ok) : G_hone a := by
  rw [vc_hone]
  have eta : ∀ d : D8, [d.1, d.2, d.3, d.4, d.5, d.6, d.7, d.8] = d.l := fun d => rfl
  refine ⟨⟨trivial, h, trivial⟩, by (repeat' first | with_reducible apply And.intro | exact trivial | exact rfl), fun _ _ => ⟨⟨trivial, trivial⟩, by (repeat' first | with_reducible apply And.intro | exact trivial | exact rfl), fun x1 e1 x2 e2 => ?_, trivial⟩, trivial⟩
  have h2 : x2 = xorC x1.1 x1.3 := e2
  have r2 : 0 ≤ x2 ∧ x2 < 18446744073709551616 := by rw [h2]; unfold xorC; rw [wrap_u64]; omega
  refine ⟨⟨trivial, r2, trivial⟩, by (repeat' first | with_reducible apply And.intro | exact trivial | exact rfl), fun _ _ => ⟨by (repeat' first | with_reducible apply And.intro | exact trivial | exact rfl), oneC a, rfl, ?_, trivial⟩, trivial⟩
  have ho : oneC a = frm x2 := by rw [h2, e1]; rfl
  rw [ho]
  exact ⟨rfl, rfl, rfl, rfl, rfl, rfl, rfl, rfl, trivial⟩
theorem s_hone : SpecOK Tryz.prog S_hone.spec := fun a => specD_at (an := []) envOK (cwN_ok (fun _ h => cwD_ok s_takeA (cwD_ok s_hnum (cwD_ok s_hfrom h))) 3) (fun h => g_hone a h)
end Go.Proofs.YtdjnipabfbblnaaGreatDoor
end

/- A game's rules: Do, Silence (what is to be shown). -/
section
set_option maxRecDepth 100000
namespace Go.Proofs.YtdjnipabfbblnaaGreatDoor
open Go.Ev
-- keep cdP cdF gmF PH GH GOk PW Byts8 playX rollX behX passX turnC checkX doX silX okPos lenOK VrH inArgs num foldI dnum frm oneC lastC rollZ rollOK inAll Go.Ev.Sli Go.Ev.HV insAt argP rightP hasC farC stepC okAt twoC truthC W32 runC storeC manyC cells4
structure DoA where
  g : GmA
  p : PA
  s : Int
  m : MA
structure MX where
  t : Bool
  gs : List Int
  d : D8
def playE (o : Option PsX) : Except Int PsX := match o with
  | some q => .ok q
  | none => .error 14
def doX (X : GX) (s : PsX) (seat : Int) (m : MX) : Except Int PsX :=
  if checkX X s ≠ 0 then .error (checkX X s) else if turnX X s < 0 then .error 15 else if turnX X s ≠ seat then .error 13 else
  if m.t ≠ decide (¬ zR s) then .error 14 else
  if zR s then playE (playX X s seat.toNat m.gs) else
  if (oneC m.d).l ≠ (tipX s seat.toNat).l then .error 29 else .ok (passX X (shownX s seat.toNat m.d) seat.toNat)
def silM (X : GX) (s : PsX) (who : Int) : MS := lastC s.x.vars (who :: z48) X.w3 X.m3
def goneX (X : GX) (s : PsX) (who : Int) : PsX := ⟨⟨(silM X s who).mem.take X.nc, s.x.gone.set who.toNat true, s.x.tips⟩, s.r0, s.r1, s.r2, s.r3, s.r4⟩
def silX (X : GX) (s : PsX) (who : Int) : Except Int PsX :=
  if checkX X s ≠ 0 then .error (checkX X s) else if ¬ (0 ≤ who ∧ who < X.ns) then .error 28 else if turnX X s < 0 then .error 15 else
  if s.x.gone.getD who.toNat false = true then .error 7 else if (silM X s who).halt ≠ 1 then .error 10 else
  if ¬ zR s ∧ s.r3 = who then .ok (passX X (goneX X s who) who.toNat) else .ok (goneX X s who)
set_option linter.unusedSectionVars false
variable [Go.Ev.Frozen Tryz.prog]
noncomputable section
abbrev posP (p : PA) : Prop := (∃ x, PH p x ∧ PW p x ∧ Byts8 x.tips) ∧ (p.s1.l ≤ 1000 ∧ p.s2.l ≤ 1000 ∧ p.s3.l ≤ 1000)
abbrev errK (e : Int) : Value := .tuple ⟨[.agg ⟨[.slice none 0 0, .slice none 0 0, .slice none 0 0, .int .i64 0, .int .i64 0, .int .i64 0, .int .i64 0, .int .u64 0]⟩, tgI .i64 e]⟩
def S_do : SpecD where
  f := 17
  α := DoA
  args a := [.pointer (some ⟨13, 0, none⟩), a.p.v (13 + 11), tgI .i64 a.s, a.m.v (13 + 14)]
  R a := gmR a.g 13 ++ (a.p.R (13 + 11) 50 ++ ((13 + 14, .f a.m.s.c 21 .gro) :: globM))
  n := 13 + 15
  pre a := GOk a.g ∧ posP a.p ∧ (∃ gs, argsOf a.m.s gs ∧ W32 gs) ∧ a.m.d.Ok ∧ a.m.s.l ≤ 1000
  outs := [⟨PA, fun a b => ∀ x X gs, PH a.p x → GH a.g X → argsOf a.m.s gs → ∃ y, PH b y ∧ doX X (a.p.ps x) a.s ⟨a.m.t, gs, a.m.d⟩ = .ok (b.ps y), fun _ b => okP b (13 + 15), fun _ b => b.R (13 + 15) 50, fun _ _ => 13 + 18, fun v _ => paN (13 + 15) (agv (lv (agv v) 0))⟩,
    ⟨KI, fun a b => b.k ≠ 0 ∧ ∀ x X gs, PH a.p x → GH a.g X → argsOf a.m.s gs → doX X (a.p.ps x) a.s ⟨a.m.t, gs, a.m.d⟩ = .error b.k, fun _ b => errK b.k, fun _ _ => [], fun _ _ => 13 + 18, fun _ _ => []⟩]
  pick v _ := erPick v
  find l A := gmK A 13 (lv l 0) fun g q => paK A (13 + 11) (agv (lv l 1)) fun p r => wI (lv l 2) fun s => maK A (13 + 14) (agv (lv l 3)) fun m t => some (⟨g, p, s, m⟩, q ++ (r ++ t))
def cwDo : CW := cwN (fun c => cwD Tryz.prog S_check (cwD Tryz.prog S_turn (cwD Tryz.prog S_play (cwD Tryz.prog S_clone (cwD Tryz.prog S_hone (cwD Tryz.prog S_hnum (cwD Tryz.prog S_pass c))))))) 3
def G_do (a : DoA) : Prop := fnW Tryz.prog E0 cwDo [] S_do.f (S_do.args a) (mem (S_do.R a) S_do.n) (endD Tryz.prog S_do a)
def S_sil : SpecD where
  f := 20
  α := BhA
  args a := [.pointer (some ⟨13, 0, none⟩), a.p.v (13 + 11), tgI .i64 a.s]
  R a := gmR a.g 13 ++ (a.p.R (13 + 11) 50 ++ globM)
  n := 13 + 14
  pre a := GOk a.g ∧ posP a.p ∧ ∀ x X, PH a.p x → GH a.g X → checkX X (a.p.ps x) = 0 → 0 ≤ a.s ∧ a.s < X.ns → (silM X (a.p.ps x) a.s).halt ≠ 2
  outs := [⟨PA, fun a b => ∀ x X, PH a.p x → GH a.g X → ∃ y, PH b y ∧ silX X (a.p.ps x) a.s = .ok (b.ps y), fun _ b => okP b (13 + 14), fun _ b => b.R (13 + 14) 50, fun _ _ => 13 + 17, fun v _ => paN (13 + 14) (agv (lv (agv v) 0))⟩,
    ⟨KI, fun a b => b.k ≠ 0 ∧ ∀ x X, PH a.p x → GH a.g X → silX X (a.p.ps x) a.s = .error b.k, fun _ b => errK b.k, fun _ _ => [], fun _ _ => 13 + 17, fun _ _ => []⟩]
  pick v _ := erPick v
  find l A := gmK A 13 (lv l 0) fun g q => paK A (13 + 11) (agv (lv l 1)) fun p r => wI (lv l 2) fun s => some (⟨g, p, s⟩, q ++ r)
def cwSil : CW := cwN (fun c => cwD Tryz.prog S_check (cwD Tryz.prog S_seat (cwD Tryz.prog S_turn (cwP 3 S_run3 (cwD Tryz.prog S_clone (cwD Tryz.prog S_pass c)))))) 3
def G_sil (a : BhA) : Prop := fnW Tryz.prog E0 cwSil [] S_sil.f (S_sil.args a) (mem (S_sil.R a) S_sil.n) (endD Tryz.prog S_sil a)
end
end Go.Proofs.YtdjnipabfbblnaaGreatDoor
end
